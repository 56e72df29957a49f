/- Gathered by a program of this session (shake.py): what the claim's theorem needs. -/
import Derived.Test.YtlglbpjccpdloaaSC1
import Derived.Test.YtlglbpjccpdloaaSC2
import Derived.Test.YtlglbpjccpdloaaSC3
import Derived.Test.YtlglbpjccpdloaaSC4
import Derived.Deep.RegionLaw
import Derived.IntWalk
import Derived.Lib.SliceRun
import Derived.WalkSpells
set_option linter.unusedVariables false
set_option linter.unusedSimpArgs false
namespace Go.Proofs.Ytlglbpjccpdloaa.Ext
end Go.Proofs.Ytlglbpjccpdloaa.Ext
namespace Go.Proofs.Ytlglbpjccpdloaa.PNamA
end Go.Proofs.Ytlglbpjccpdloaa.PNamA
namespace Go.Proofs.Ytlglbpjccpdloaa.Tox
end Go.Proofs.Ytlglbpjccpdloaa.Tox
namespace Go.Proofs.Ytlglbpjccpdloaa.ToxZ
end Go.Proofs.Ytlglbpjccpdloaa.ToxZ
namespace Go.Proofs.YtlglbpjccpdloaaW.PrintLast
end Go.Proofs.YtlglbpjccpdloaaW.PrintLast
namespace Go.Proofs.YtlglbpjccpdloaaW.PrintMore
end Go.Proofs.YtlglbpjccpdloaaW.PrintMore
namespace Go.Proofs.YtlglbpjccpdloaaW.PrintWords
end Go.Proofs.YtlglbpjccpdloaaW.PrintWords
namespace Go.Proofs.Ytlglbpjccpdloaa.PNamA
open Go.Proofs.Ytlglbpjccpdloaa.Ext Go.Proofs.Ytlglbpjccpdloaa.ToxZ Go.RowKit Go.Proofs.YtlglbpjccpdloaaW.PrintWords Go.Proofs.YtlglbpjccpdloaaW.PrintLast Go.Proofs.YtlglbpjccpdloaaW.PrintMore
attribute [local go_sem] max2_int min2_int max_two min_two max_three min_three max_four min_four   -- for this text's walks alone
set_option linter.unusedVariables false
set_option linter.unusedSimpArgs false
private theorem pw_size_mk (l : Array UInt8) : (⟨l⟩ : ByteArray).size = l.size := rfl
def chicaneref01_Text.l0 : Nat → Int → ByteArray → Option (ByteArray)
  | 0, _, _ => none
  | k + 1, x0, x3 => if x0 > 0 then (if 0 ≤ (Int.tmod x0 10) then (if (Int.tmod x0 10) ≤ (wrap64 ((Int.tmod x0 10) + 1)) then (if (wrap64 ((Int.tmod x0 10) + 1)) ≤ 10 then (if ((⟨#[48, 49, 50, 51, 52, 53, 54, 55, 56, 57]⟩ : ByteArray).extract ((Int.tmod x0 10) : Int).toNat ((wrap64 ((Int.tmod x0 10) + 1)) : Int).toNat).size + x3.size ≤ 9223372036854775807 then (chicaneref01_Text.l0 k (wrap64 (Int.tdiv x0 10)) (((⟨#[48, 49, 50, 51, 52, 53, 54, 55, 56, 57]⟩ : ByteArray).extract ((Int.tmod x0 10) : Int).toNat ((wrap64 ((Int.tmod x0 10) + 1)) : Int).toNat) ++ x3)) else (none)) else (none)) else (none)) else (none)) else (if x3.toList = ([] : List UInt8) then (if 0 ≤ (Int.tmod x0 10) then (if (Int.tmod x0 10) ≤ (wrap64 ((Int.tmod x0 10) + 1)) then (if (wrap64 ((Int.tmod x0 10) + 1)) ≤ 10 then (if ((⟨#[48, 49, 50, 51, 52, 53, 54, 55, 56, 57]⟩ : ByteArray).extract ((Int.tmod x0 10) : Int).toNat ((wrap64 ((Int.tmod x0 10) + 1)) : Int).toNat).size + x3.size ≤ 9223372036854775807 then (chicaneref01_Text.l0 k (wrap64 (Int.tdiv x0 10)) (((⟨#[48, 49, 50, 51, 52, 53, 54, 55, 56, 57]⟩ : ByteArray).extract ((Int.tmod x0 10) : Int).toNat ((wrap64 ((Int.tmod x0 10) + 1)) : Int).toNat) ++ x3)) else (none)) else (none)) else (none)) else (none)) else (some x3))
def chicaneref01_Text.f (k : Nat) (a0 : Int) : Option (ByteArray) := (chicaneref01_Near.f a0).bind fun t179 => (chicaneref01_Text.l0 k t179 (⟨#[]⟩ : ByteArray))
theorem chicaneref01_Text.mono_l : ∀ k, (∀ y0 y1, LeO (chicaneref01_Text.l0 k y0 y1) (chicaneref01_Text.l0 (k + 1) y0 y1))
  | 0 => fun _ _ r h => by simp [chicaneref01_Text.l0] at h
  | k + 1 => by
    have ih0 := chicaneref01_Text.mono_l k
    · intro y0 y1
      unfold chicaneref01_Text.l0
      repeat' first
      | (with_reducible exact ih0 _ _)
      | (with_reducible exact LeO.refl _)
      | (with_reducible exact LeO.none _)
      | (with_reducible refine LeO.ite ?_ ?_)
      | (with_reducible refine LeO.bind ?_ (fun _ => ?_))
      | exact ih0 _ _
      | exact LeO.none _
      | refine LeO.ite ?_ ?_
      | refine LeO.bind ?_ (fun _ => ?_)
theorem chicaneref01_Text.mono : ∀ a0 k, LeO (chicaneref01_Text.f k a0) (chicaneref01_Text.f (k + 1) a0) := by
  intro a0 k
  have ih0 := chicaneref01_Text.mono_l k
  unfold chicaneref01_Text.f
  repeat' first
      | (with_reducible exact ih0 _ _)
      | (with_reducible exact LeO.refl _)
      | (with_reducible exact LeO.none _)
      | (with_reducible refine LeO.ite ?_ ?_)
      | (with_reducible refine LeO.bind ?_ (fun _ => ?_))
      | exact ih0 _ _
      | exact LeO.none _
      | refine LeO.ite ?_ ?_
      | refine LeO.bind ?_ (fun _ => ?_)
set_option maxHeartbeats 8000000 in
set_option maxRecDepth 100000 in
theorem chicaneref01_Text.calls (k : Nat) (a0 : Int) (r : ByteArray) (w : World) (h : chicaneref01_Text.f k a0 = some r) :
    Calls Try.prog 28 #[.int .i64 a0] w fun e w' => e = .returned (.string r) ∧ Drawn0 w w' := by
  have H : ((chicaneref01_Near.f a0).bind fun t179 => (chicaneref01_Text.l0 k t179 (⟨#[]⟩ : ByteArray))) = some r := h
  clear h
  replace H := Option.bind_eq_some_iff.mp H
  obtain ⟨t179, A20, H⟩ := H
  replace H : (chicaneref01_Text.l0 k t179 (⟨#[]⟩ : ByteArray)) = some r := H
  have A2 := Aside0.mk A20
  clear A20
  have H' := Aside0.mk H
  clear H
  go_enter Try.func28, Try.ntmps28
  go_wp2_with (first | ((with_reducible refine gate_callee (f := 63) rfl ?_); refine goesL_ (some 5) rfl rfl Try.func63 (by kernel_rfl) rfl #[.int .i64 a0] rfl (by (try simp only [List.map_toArray, List.map_cons, List.map_nil]); first | done | rfl | (simp only [List.length_drop, List.length_take]; rfl)) ?_; (with_reducible refine (chicaneref01_Near.calls a0 t179 _ A2.out).mono ?_); rintro e w' ⟨rfl, ⟨nd, rfl⟩⟩; refine ⟨_, rfl, ?_⟩))
  go_loopg [0, 3] k (fun kq v0 v3 w' => ∃ (x0_1 : Int) (x3_1 : ByteArray), v0 = .int .i64 x0_1 ∧ v3 = .string x3_1 ∧ Aside0 (chicaneref01_Text.l0 kq x0_1 x3_1 = some r) ∧ Aside0 (kq ≤ k) ∧ Drawn0 w w')
  case atStart => exact ⟨(t179), ((⟨#[]⟩ : ByteArray)), (by first | rfl | (simp; done) | (simp [*]; done)), (by first | rfl | (simp; done) | (simp [*]; done)), H', ⟨Nat.le_refl _⟩, by repeat (first | exact Drawn0.refl _ | apply Drawn0.step)⟩
  case round =>
    clear H'
    try clear c2
    try clear p2
    obtain ⟨x0_1, x3_1, rfl, rfl, HA, HK1, ⟨m1, rfl⟩⟩ := hrel
    cases gk with
    | zero => exact absurd HA.out (by simp [chicaneref01_Text.l0])
    | succ k1 =>
      have H := HA.out
      clear HA
      simp only [chicaneref01_Text.l0] at H
      by_cases c3 : x0_1 > 0
      · rw [if_pos c3] at H
        have c3b0 : decide (0 < x0_1) = true := decide_eq_true c3
        clear c3
        obtain ⟨ji4, hji4⟩ : ∃ j_ : Int, (Int.tmod x0_1 10) = j_ := ⟨_, rfl⟩
        replace H : (if 0 ≤ (ji4) then (if (ji4) ≤ (wrap64 ((ji4) + 1)) then (if (wrap64 ((ji4) + 1)) ≤ 10 then (if ((⟨#[48, 49, 50, 51, 52, 53, 54, 55, 56, 57]⟩ : ByteArray).extract ((ji4) : Int).toNat ((wrap64 ((ji4) + 1)) : Int).toNat).size + x3_1.size ≤ 9223372036854775807 then (chicaneref01_Text.l0 k1 (wrap64 (Int.tdiv x0_1 10)) (((⟨#[48, 49, 50, 51, 52, 53, 54, 55, 56, 57]⟩ : ByteArray).extract ((ji4) : Int).toNat ((wrap64 ((ji4) + 1)) : Int).toNat) ++ x3_1)) else (none)) else (none)) else (none)) else (none)) = some r := by first | (rw [hji4] at H; exact H) | (simp only [hji4] at H ⊢; exact H)
        by_cases c5 : 0 ≤ (ji4)
        · rw [if_pos c5] at H
          have c5b0 := eq_true c5
          have c5b1 : decide (0 ≤ (ji4)) = true := decide_eq_true c5
          clear c5
          by_cases c6 : (ji4) ≤ (wrap64 ((ji4) + 1))
          · rw [if_pos c6] at H
            have c6b0 := eq_true c6
            have c6b1 : decide ((ji4) ≤ (wrap64 ((ji4) + 1))) = true := decide_eq_true c6
            by_cases c7 : (wrap64 ((ji4) + 1)) ≤ 10
            · rw [if_pos c7] at H
              have c7b0 := eq_true c7
              have c7b1 : decide ((wrap64 ((ji4) + 1)) ≤ 10) = true := decide_eq_true c7
              by_cases c8 : ((⟨#[48, 49, 50, 51, 52, 53, 54, 55, 56, 57]⟩ : ByteArray).extract ((ji4) : Int).toNat ((wrap64 ((ji4) + 1)) : Int).toNat).size + x3_1.size ≤ 9223372036854775807
              · rw [if_pos c8] at H
                have c8b0 := eq_true c8
                have c8b1 : decide (((⟨#[48, 49, 50, 51, 52, 53, 54, 55, 56, 57]⟩ : ByteArray).extract ((ji4) : Int).toNat ((wrap64 ((ji4) + 1)) : Int).toNat).size + x3_1.size ≤ 9223372036854775807) = true := decide_eq_true c8
                try have c8b2 : (9223372036854775807 < ((⟨#[48, 49, 50, 51, 52, 53, 54, 55, 56, 57]⟩ : ByteArray).extract ((ji4) : Int).toNat ((wrap64 ((ji4) + 1)) : Int).toNat).size + x3_1.size) = False := eq_false (Nat.not_lt.2 c8)
                have H' := Aside0.mk H
                clear H
                go_wp2
                go_roundg k1
                case measure => have := HK1.out; omega
                case rel => exact ⟨(wrap64 (Int.tdiv x0_1 10)), (((⟨#[48, 49, 50, 51, 52, 53, 54, 55, 56, 57]⟩ : ByteArray).extract ((ji4) : Int).toNat ((wrap64 ((ji4) + 1)) : Int).toNat) ++ x3_1), (by first | rfl | (simp; done) | (simp [*]; done)), (by first | rfl | (simp; done) | (simp only [← hji4] <;> (first | rfl | simp)) | (simp [*]; done)), H', ⟨by have := HK1.out; omega⟩, by repeat (first | exact Drawn0.refl _ | apply Drawn0.step)⟩
              · rw [if_neg c8] at H
                exact absurd H (by simp)
            · rw [if_neg c7] at H
              exact absurd H (by simp)
          · rw [if_neg c6] at H
            exact absurd H (by simp)
        · rw [if_neg c5] at H
          exact absurd H (by simp)
      · rw [if_neg c3] at H
        have c3b0 : decide (0 < x0_1) = false := decide_eq_false c3
        clear c3
        by_cases c9 : x3_1.toList = ([] : List UInt8)
        · rw [if_pos c9] at H
          have c9b0 : (x3_1.toList == ([] : List UInt8)) = true := beq_iff_eq.mpr c9
          have c9b1 : (x3_1.toList != ([] : List UInt8)) = false := bne_eq_false_iff_eq.mpr c9
          clear c9
          obtain ⟨ji10, hji10⟩ : ∃ j_ : Int, (Int.tmod x0_1 10) = j_ := ⟨_, rfl⟩
          replace H : (if 0 ≤ (ji10) then (if (ji10) ≤ (wrap64 ((ji10) + 1)) then (if (wrap64 ((ji10) + 1)) ≤ 10 then (if ((⟨#[48, 49, 50, 51, 52, 53, 54, 55, 56, 57]⟩ : ByteArray).extract ((ji10) : Int).toNat ((wrap64 ((ji10) + 1)) : Int).toNat).size + x3_1.size ≤ 9223372036854775807 then (chicaneref01_Text.l0 k1 (wrap64 (Int.tdiv x0_1 10)) (((⟨#[48, 49, 50, 51, 52, 53, 54, 55, 56, 57]⟩ : ByteArray).extract ((ji10) : Int).toNat ((wrap64 ((ji10) + 1)) : Int).toNat) ++ x3_1)) else (none)) else (none)) else (none)) else (none)) = some r := by first | (rw [hji10] at H; exact H) | (simp only [hji10] at H ⊢; exact H)
          by_cases c11 : 0 ≤ (ji10)
          · rw [if_pos c11] at H
            have c11b0 := eq_true c11
            have c11b1 : decide (0 ≤ (ji10)) = true := decide_eq_true c11
            clear c11
            by_cases c12 : (ji10) ≤ (wrap64 ((ji10) + 1))
            · rw [if_pos c12] at H
              have c12b0 := eq_true c12
              have c12b1 : decide ((ji10) ≤ (wrap64 ((ji10) + 1))) = true := decide_eq_true c12
              by_cases c13 : (wrap64 ((ji10) + 1)) ≤ 10
              · rw [if_pos c13] at H
                have c13b0 := eq_true c13
                have c13b1 : decide ((wrap64 ((ji10) + 1)) ≤ 10) = true := decide_eq_true c13
                by_cases c14 : ((⟨#[48, 49, 50, 51, 52, 53, 54, 55, 56, 57]⟩ : ByteArray).extract ((ji10) : Int).toNat ((wrap64 ((ji10) + 1)) : Int).toNat).size + x3_1.size ≤ 9223372036854775807
                · rw [if_pos c14] at H
                  have c14b0 := eq_true c14
                  have c14b1 : decide (((⟨#[48, 49, 50, 51, 52, 53, 54, 55, 56, 57]⟩ : ByteArray).extract ((ji10) : Int).toNat ((wrap64 ((ji10) + 1)) : Int).toNat).size + x3_1.size ≤ 9223372036854775807) = true := decide_eq_true c14
                  try have c14b2 : (9223372036854775807 < ((⟨#[48, 49, 50, 51, 52, 53, 54, 55, 56, 57]⟩ : ByteArray).extract ((ji10) : Int).toNat ((wrap64 ((ji10) + 1)) : Int).toNat).size + x3_1.size) = False := eq_false (Nat.not_lt.2 c14)
                  have H' := Aside0.mk H
                  clear H
                  go_wp2
                  go_roundg k1
                  case measure => have := HK1.out; omega
                  case rel => exact ⟨(wrap64 (Int.tdiv x0_1 10)), (((⟨#[48, 49, 50, 51, 52, 53, 54, 55, 56, 57]⟩ : ByteArray).extract ((ji10) : Int).toNat ((wrap64 ((ji10) + 1)) : Int).toNat) ++ x3_1), (by first | rfl | (simp; done) | (simp [*]; done)), (by first | rfl | (simp; done) | (simp only [← hji10] <;> (first | rfl | simp)) | (simp [*]; done)), H', ⟨by have := HK1.out; omega⟩, by repeat (first | exact Drawn0.refl _ | apply Drawn0.step)⟩
                · rw [if_neg c14] at H
                  exact absurd H (by simp)
              · rw [if_neg c13] at H
                exact absurd H (by simp)
            · rw [if_neg c12] at H
              exact absurd H (by simp)
          · rw [if_neg c11] at H
            exact absurd H (by simp)
        · rw [if_neg c9] at H
          have c9b0 : (x3_1.toList == ([] : List UInt8)) = false := beq_eq_false_iff_ne.mpr c9
          have c9b1 : (x3_1.toList != ([] : List UInt8)) = true := bne_iff_ne.mpr c9
          obtain rfl := Option.some.inj H
          go_wp2
          go_ret
          exact ⟨by first | rfl | (simp; done) | (simp [*]; done), by repeat (first | exact Drawn0.refl _ | apply Drawn0.step)⟩
mutual
def chicaneref14_Lines.j0 : Nat → ByteArray → ByteArray → Bool → Int → List (S39) → Option (List ByteArray)
  | 0, _, _, _, _, _ => none
  | k + 1, x3, x181000, x181001, x181002, x181003 => if x181000.size + x3.size ≤ 9223372036854775807 then ((chicaneref01_Text.f k x181002).bind fun t182 => (if (x181000 ++ x3).size + t182.size ≤ 9223372036854775807 then (if ((x181000 ++ x3) ++ t182).size + 1 ≤ 9223372036854775807 then ((chicaneref01_Text.f k (x181003.length : Int)).bind fun t183 => (if (((x181000 ++ x3) ++ t182) ++ (⟨#[32]⟩ : ByteArray)).size + t183.size ≤ 9223372036854775807 then (chicaneref14_Lines.l0 k (([(((x181000 ++ x3) ++ t182) ++ (⟨#[32]⟩ : ByteArray)) ++ t183] : List ByteArray)) 0 x181000 x181001 x181002 x181003) else (none))) else (none)) else (none))) else (none)
def chicaneref14_Lines.l0 : Nat → List ByteArray → Int → ByteArray → Bool → Int → List (S39) → Option (List ByteArray)
  | 0, _, _, _, _, _, _ => none
  | k + 1, x4, x5, x181000, x181001, x181002, x181003 => if x5 < (x181003.length : Int) then (if 0 ≤ x5 then ((chicaneref09_Text.f ((rd_T39 x181003 x5).f0) ((rd_T39 x181003 x5).f1) ((rd_T39 x181003 x5).f2) ((rd_T39 x181003 x5).f3) ((rd_T39 x181003 x5).f4) ((rd_T39 x181003 x5).f5)).bind fun t188 => (if x4.length < 8796093022208 then (chicaneref14_Lines.l0 k (x4 ++ [t188]) (wrap64 (x5 + 1)) x181000 x181001 x181002 x181003) else (none))) else (none)) else (some x4)
end
def chicaneref14_Lines.f (k : Nat) (a0_0 : ByteArray) (a0_1 : Bool) (a0_2 : Int) (l0_3 : List (S39)) : Option (List ByteArray) := (chicaneref14_Check.f k a0_0 a0_1 a0_2 l0_3).bind fun t181 => (if t181 = 0 then (if a0_1 = true then (chicaneref14_Lines.j0 k (⟨#[32, 111, 110, 32]⟩ : ByteArray) a0_0 a0_1 a0_2 l0_3) else (chicaneref14_Lines.j0 k (⟨#[32, 111, 102, 102, 32]⟩ : ByteArray) a0_0 a0_1 a0_2 l0_3)) else (some ([] : List ByteArray)))
theorem chicaneref14_Lines.mono_l : ∀ k, (∀ y0 y1 y2 y3 y4, LeO (chicaneref14_Lines.j0 k y0 y1 y2 y3 y4) (chicaneref14_Lines.j0 (k + 1) y0 y1 y2 y3 y4)) ∧ (∀ y0 y1 y2 y3 y4 y5, LeO (chicaneref14_Lines.l0 k y0 y1 y2 y3 y4 y5) (chicaneref14_Lines.l0 (k + 1) y0 y1 y2 y3 y4 y5))
  | 0 => ⟨fun _ _ _ _ _ r h => by simp [chicaneref14_Lines.j0] at h, fun _ _ _ _ _ _ r h => by simp [chicaneref14_Lines.l0] at h⟩
  | k + 1 => by
    obtain ⟨ih0, ih1⟩ := chicaneref14_Lines.mono_l k
    refine ⟨?_, ?_⟩
    · intro y0 y1 y2 y3 y4
      unfold chicaneref14_Lines.j0
      repeat' first
      | (with_reducible exact ih0 _ _ _ _ _)
      | (with_reducible exact ih1 _ _ _ _ _ _)
      | (with_reducible exact chicaneref01_Text.mono _ _)
      | (with_reducible exact chicaneref14_Check.mono _ _ _ _ _)
      | (with_reducible exact LeO.refl _)
      | (with_reducible exact LeO.none _)
      | (with_reducible refine LeO.ite ?_ ?_)
      | (with_reducible refine LeO.bind ?_ (fun _ => ?_))
      | exact ih0 _ _ _ _ _
      | exact ih1 _ _ _ _ _ _
      | exact chicaneref01_Text.mono _ _
      | exact chicaneref14_Check.mono _ _ _ _ _
      | exact LeO.none _
      | refine LeO.ite ?_ ?_
      | refine LeO.bind ?_ (fun _ => ?_)
    · intro y0 y1 y2 y3 y4 y5
      unfold chicaneref14_Lines.l0
      repeat' first
      | (with_reducible exact ih0 _ _ _ _ _)
      | (with_reducible exact ih1 _ _ _ _ _ _)
      | (with_reducible exact chicaneref01_Text.mono _ _)
      | (with_reducible exact chicaneref14_Check.mono _ _ _ _ _)
      | (with_reducible exact LeO.refl _)
      | (with_reducible exact LeO.none _)
      | (with_reducible refine LeO.ite ?_ ?_)
      | (with_reducible refine LeO.bind ?_ (fun _ => ?_))
      | exact ih0 _ _ _ _ _
      | exact ih1 _ _ _ _ _ _
      | exact chicaneref01_Text.mono _ _
      | exact chicaneref14_Check.mono _ _ _ _ _
      | exact LeO.none _
      | refine LeO.ite ?_ ?_
      | refine LeO.bind ?_ (fun _ => ?_)
theorem chicaneref14_Lines.mono : ∀ a0 a1 a2 a3 k, LeO (chicaneref14_Lines.f k a0 a1 a2 a3) (chicaneref14_Lines.f (k + 1) a0 a1 a2 a3) := by
  intro a0 a1 a2 a3 k
  obtain ⟨ih0, ih1⟩ := chicaneref14_Lines.mono_l k
  unfold chicaneref14_Lines.f
  repeat' first
      | (with_reducible exact ih0 _ _ _ _ _)
      | (with_reducible exact ih1 _ _ _ _ _ _)
      | (with_reducible exact chicaneref01_Text.mono _ _)
      | (with_reducible exact chicaneref14_Check.mono _ _ _ _ _)
      | (with_reducible exact LeO.refl _)
      | (with_reducible exact LeO.none _)
      | (with_reducible refine LeO.ite ?_ ?_)
      | (with_reducible refine LeO.bind ?_ (fun _ => ?_))
      | exact ih0 _ _ _ _ _
      | exact ih1 _ _ _ _ _ _
      | exact chicaneref01_Text.mono _ _
      | exact chicaneref14_Check.mono _ _ _ _ _
      | exact LeO.none _
      | refine LeO.ite ?_ ?_
      | refine LeO.bind ?_ (fun _ => ?_)
def chicaneref14_Lines.T6 : Bool × List (List Nat × List Nat) := (true, [([], []), ([0], [0]), ([], []), ([1, 2], [1, 2]), ([], []), ([4], [4]), ([5], [5]), ([3, 6], [3, 6]), ([7], [7]), ([], []), ([9], [9]), ([10], [10]), ([11, 6], [11]), ([8, 12], [8, 12]), ([13], [13]), ([14, 12, 0, 1, 2, 3, 4, 5, 6, 7, 8, 9, 10, 11, 12, 13, 14], [14])])
def chicaneref14_Lines.B6 : List Nat := [0, 1, 0, 7, 0, 16, 48, 127, 255, 0, 512, 1536, 3696, 8191, 16383, 32767]
theorem chicaneref14_Lines.tab6 : rtab .any (opsOf Try.f10 6) = chicaneref14_Lines.T6 := by kernel_rfl
theorem chicaneref14_Lines.bits6 : waitsOk chicaneref14_Lines.T6.2 chicaneref14_Lines.B6 = true := by kernel_rfl
set_option maxHeartbeats 8000000 in
set_option maxRecDepth 100000 in
theorem chicaneref14_Lines.calls (k : Nat) (a0_0 : ByteArray) (a0_1 : Bool) (a0_2 : Int) (A0_3 : Option Addr) (c0_3 : Nat) (l0_3 : List (S39)) (r : List ByteArray) (w : World) (hr0_3 : Kd.C k39 w A0_3 l0_3.length l0_3) (hc0_3 : l0_3.length ≤ c0_3) (h : chicaneref14_Lines.f k a0_0 a0_1 a0_2 l0_3 = some r) :
    Calls Try.prog 10 #[.agg #[.string a0_0, .bool a0_1, .int .i64 a0_2, .slice A0_3 l0_3.length c0_3]] w fun e w' => ∃ v0_ : Value, e = .returned (v0_) ∧ Kd.R Kd.string 9 w' w.heap.size (fun _ => True) v0_ r ∧ Below w.heap.size w w' := by
  have hu24 := Try.underlying24
  have hu39 := Try.underlying39
  have HR0_3 := Aside0.mk hr0_3
  have HC0_3 := Aside0.mk hc0_3
  clear hr0_3 hc0_3
  have HB := Aside0.mk (Below.refl w.heap.size w)
  have H : ((chicaneref14_Check.f k a0_0 a0_1 a0_2 l0_3).bind fun t181 => (if t181 = 0 then (if a0_1 = true then (chicaneref14_Lines.j0 k (⟨#[32, 111, 110, 32]⟩ : ByteArray) a0_0 a0_1 a0_2 l0_3) else (chicaneref14_Lines.j0 k (⟨#[32, 111, 102, 102, 32]⟩ : ByteArray) a0_0 a0_1 a0_2 l0_3)) else (some ([] : List ByteArray)))) = some r := h
  clear h
  replace H := Option.bind_eq_some_iff.mp H
  obtain ⟨t181, A20, H⟩ := H
  replace H : (if t181 = 0 then (if a0_1 = true then (chicaneref14_Lines.j0 k (⟨#[32, 111, 110, 32]⟩ : ByteArray) a0_0 a0_1 a0_2 l0_3) else (chicaneref14_Lines.j0 k (⟨#[32, 111, 102, 102, 32]⟩ : ByteArray) a0_0 a0_1 a0_2 l0_3)) else (some ([] : List ByteArray))) = some r := H
  have A2 := Aside0.mk A20
  clear A20
  by_cases c3 : t181 = 0
  · rw [if_pos c3] at H
    have c3b0 : (t181 == 0) = true := beq_iff_eq.mpr c3
    have c3b1 : (t181 != 0) = false := bne_eq_false_iff_eq.mpr c3
    clear c3
    have HC4 := Aside0.mk H
    clear H
    go_enter Try.func10, Try.ntmps10
    go_upto_if 10 with (first | ((with_reducible refine gate_dst (N := 1) rfl ?_); refine box_event ?hg (N := 1) ?hd (cs := #[.string a0_0, .bool a0_1, .int .i64 a0_2, .slice A0_3 l0_3.length c0_3]) (t := 24) ?hr ?_; (case hd => rfl); (case hg => rfl); (case hr => first | (go_simp; done) | (go_simp; rfl)); intro gb180 hg w5 hbox hb; have n0_ := Aside0.mk (below_step (by repeat (first | (with_reducible first | exact HB.out | apply below_alloc | apply pw_below_drewN | apply below_drew1) | exact HB.out)) hb); have n1_ := Aside0.mk (hbox); have n2_ := Aside0.mk ((by rw [hg]; exact (below_size (by repeat (first | (with_reducible first | exact HB.out | apply below_alloc | apply pw_below_drewN | apply below_drew1) | exact HB.out))) : w.heap.size ≤ gb180)); have n3_ := Aside0.mk ((by rw [hg]; exact (below_size (by repeat (first | (with_reducible first | exact HB.out | apply below_alloc | apply pw_below_drewN | apply below_drew1) | exact HB.out))) : w.heap.size ≤ gb180)); clear HB; have HB := n0_; have BK180 := n1_; have GW180 := n2_; have GE180 := n3_; clear n0_ n1_ n2_ n3_; clear hb hbox hg; have hcz6_0 : w5.cell? ⟨gb180, 0, none⟩ = some (.string a0_0) := (blk_cell BK180.out 0).trans rfl; have hcz6_1 : w5.cell? ⟨gb180, 1, none⟩ = some (.bool a0_1) := (blk_cell BK180.out 1).trans rfl; have hcz6_2 : w5.cell? ⟨gb180, 2, none⟩ = some (.int .i64 a0_2) := (blk_cell BK180.out 2).trans rfl; have hcz6_3 : w5.cell? ⟨gb180, 3, none⟩ = some (.slice A0_3 l0_3.length c0_3) := (blk_cell BK180.out 3).trans rfl; have hfz6_0 := blk_frozen BK180.out 0; have hfz6_1 := blk_frozen BK180.out 1; have hfz6_2 := blk_frozen BK180.out 2; have hfz6_3 := blk_frozen BK180.out 3) | ((with_reducible refine gate_callee (f := 12) rfl ?_); refine goesL_ (some 7) rfl rfl Try.func12 (by kernel_rfl) rfl #[.agg #[.string a0_0, .bool a0_1, .int .i64 a0_2, .slice A0_3 l0_3.length c0_3]] rfl (by (try simp only [List.map_toArray, List.map_cons, List.map_nil]); first | done | rfl | (simp only [List.length_drop, List.length_take]; rfl)) ?_; (with_reducible refine (chicaneref14_Check.calls k a0_0 a0_1 a0_2 _ _ l0_3 t181 _ ?side1 ?side2 A2.out).mono ?_); (case side1 => repeat (first | exact (Kd.C_below HR0_3.out HB.out) | (with_reducible refine Kd.C_alloc ?_ _) | (with_reducible refine Kd.C_drewN ?_ _) | (with_reducible refine Kd.C_drew ?_))); (case side2 => exact HC0_3.out); rintro e w7 ⟨rfl, hb⟩; refine ⟨_, rfl, ?_⟩; have n0_ := Aside0.mk (blk_below (g := gb180) (o := .cells #[.string a0_0, .bool a0_1, .int .i64 a0_2, .slice A0_3 l0_3.length c0_3] 24 (0, 0)) (by (with_reducible repeat (first | refine blk_drewN ?_ _ | refine blk_drew ?_ | refine blk_alloc ?_ _)); exact BK180.out) hb); have n1_ := Aside0.mk (below_step (by repeat (first | (with_reducible first | exact HB.out | apply below_alloc | apply pw_below_drewN | apply below_drew1 | refine below_set ?_ GE180.out) | exact HB.out)) hb); clear BK180; clear HB; have BK180 := n0_; have HB := n1_; clear n0_ n1_; (try clear hb); (try clear hb2); (try clear hk); (try clear hi); have hcz8_0 : w7.cell? ⟨gb180, 0, none⟩ = some (.string a0_0) := (blk_cell BK180.out 0).trans rfl; have hcz8_1 : w7.cell? ⟨gb180, 1, none⟩ = some (.bool a0_1) := (blk_cell BK180.out 1).trans rfl; have hcz8_2 : w7.cell? ⟨gb180, 2, none⟩ = some (.int .i64 a0_2) := (blk_cell BK180.out 2).trans rfl; have hcz8_3 : w7.cell? ⟨gb180, 3, none⟩ = some (.slice A0_3 l0_3.length c0_3) := (blk_cell BK180.out 3).trans rfl; have hfz8_0 := blk_frozen BK180.out 0; have hfz8_1 := blk_frozen BK180.out 1; have hfz8_2 := blk_frozen BK180.out 2; have hfz8_3 := blk_frozen BK180.out 3))
    (try simp only [Act.put, List.setIfInBounds_toArray, List.set_cons_zero, List.set_cons_succ])
    go_cut [3] (fun v3 wc => ∃ (kq : Nat) (x3_3 : ByteArray), v3 = .string x3_3 ∧ Aside0 (chicaneref14_Lines.j0 kq x3_3 a0_0 a0_1 a0_2 l0_3 = some r) ∧ Aside0 (kq ≤ k) ∧ Aside0 (wc.heap[gb180]? = some (.cells #[.string a0_0, .bool a0_1, .int .i64 a0_2, (.slice A0_3 l0_3.length c0_3)] 24 (0, 0))) ∧ Aside0 (Below w.heap.size w wc))
    case first =>
      have H := HC4.out
      clear HC4
      by_cases c9 : a0_1 = true
      · subst c9
        have H1 : (chicaneref14_Lines.j0 k (⟨#[32, 111, 110, 32]⟩ : ByteArray) a0_0 true a0_2 l0_3) = some r := by rw [if_pos rfl] at H; exact H
        clear H
        have H := H1
        clear H1
        have H' := Aside0.mk H
        clear H
        go_wp2
        go_meet
        case rel => exact ⟨_, ((⟨#[32, 111, 110, 32]⟩ : ByteArray)), (by first | rfl | (simp; done) | (simp [*]; done)), H', ⟨by first | omega | exact Nat.le_refl _⟩, ⟨by (with_reducible repeat (first | refine blk_drewN ?_ _ | refine blk_drew ?_ | refine blk_alloc ?_ _)); exact BK180.out⟩, ⟨by repeat (first | (with_reducible first | exact HB.out | apply below_alloc | apply pw_below_drewN | apply below_drew1 | refine below_set ?_ GE180.out) | exact HB.out)⟩⟩
      · replace c9 := Bool.eq_false_iff.mpr c9
        subst c9
        have H1 : (chicaneref14_Lines.j0 k (⟨#[32, 111, 102, 102, 32]⟩ : ByteArray) a0_0 false a0_2 l0_3) = some r := by rw [if_neg (show ¬ (false = true) by decide)] at H; exact H
        clear H
        have H := H1
        clear H1
        have H' := Aside0.mk H
        clear H
        go_wp2
        go_meet
        case rel => exact ⟨_, ((⟨#[32, 111, 102, 102, 32]⟩ : ByteArray)), (by first | rfl | (simp; done) | (simp [*]; done)), H', ⟨by first | omega | exact Nat.le_refl _⟩, ⟨by (with_reducible repeat (first | refine blk_drewN ?_ _ | refine blk_drew ?_ | refine blk_alloc ?_ _)); exact BK180.out⟩, ⟨by repeat (first | (with_reducible first | exact HB.out | apply below_alloc | apply pw_below_drewN | apply below_drew1 | refine below_set ?_ GE180.out) | exact HB.out)⟩⟩
    case rest =>
      clear HC4
      try clear c1
      try clear p2
      try clear c3
      try clear c3b0
      try clear c3b1
      try clear c9
      try clear hcz6_0
      try clear hcz6_1
      try clear hcz6_2
      try clear hcz6_3
      try clear hcz8_0
      try clear hcz8_1
      try clear hcz8_2
      try clear hcz8_3
      try clear hfz6_0
      try clear hfz6_1
      try clear hfz6_2
      try clear hfz6_3
      try clear hfz8_0
      try clear hfz8_1
      try clear hfz8_2
      try clear hfz8_3
      obtain ⟨kq, x3_3, rfl, HA, HJ3, BK180, HB⟩ := hcut
      cases kq with
      | zero => exact absurd HA.out (by simp [chicaneref14_Lines.j0])
      | succ kj3 =>
        have H := HA.out
        clear HA
        simp only [chicaneref14_Lines.j0] at H
        by_cases c10 : a0_0.size + x3_3.size ≤ 9223372036854775807
        · rw [if_pos c10] at H
          have c10b0 := eq_true c10
          have c10b1 : decide (a0_0.size + x3_3.size ≤ 9223372036854775807) = true := decide_eq_true c10
          try have c10b2 : (9223372036854775807 < a0_0.size + x3_3.size) = False := eq_false (Nat.not_lt.2 c10)
          replace H := Option.bind_eq_some_iff.mp H
          obtain ⟨t182, A110, H⟩ := H
          replace H : (if (a0_0 ++ x3_3).size + t182.size ≤ 9223372036854775807 then (if ((a0_0 ++ x3_3) ++ t182).size + 1 ≤ 9223372036854775807 then ((chicaneref01_Text.f kj3 (l0_3.length : Int)).bind fun t183 => (if (((a0_0 ++ x3_3) ++ t182) ++ (⟨#[32]⟩ : ByteArray)).size + t183.size ≤ 9223372036854775807 then (chicaneref14_Lines.l0 kj3 (([(((a0_0 ++ x3_3) ++ t182) ++ (⟨#[32]⟩ : ByteArray)) ++ t183] : List ByteArray)) 0 a0_0 a0_1 a0_2 l0_3) else (none))) else (none)) else (none)) = some r := H
          have A11 := Aside0.mk A110
          clear A110
          by_cases c12 : (a0_0 ++ x3_3).size + t182.size ≤ 9223372036854775807
          · rw [if_pos c12] at H
            have c12b0 := eq_true c12
            have c12b1 : decide ((a0_0 ++ x3_3).size + t182.size ≤ 9223372036854775807) = true := decide_eq_true c12
            try have c12b2 : (9223372036854775807 < (a0_0 ++ x3_3).size + t182.size) = False := eq_false (Nat.not_lt.2 c12)
            try have c12b3 := c12b2
            try simp only [ByteArray.size_append, pw_size_mk, List.size_toArray, List.length_cons, List.length_nil, Nat.zero_add] at c12b3
            by_cases c13 : ((a0_0 ++ x3_3) ++ t182).size + 1 ≤ 9223372036854775807
            · rw [if_pos c13] at H
              have c13b0 := eq_true c13
              have c13b1 : decide (((a0_0 ++ x3_3) ++ t182).size + 1 ≤ 9223372036854775807) = true := decide_eq_true c13
              try have c13b2 : (9223372036854775807 < ((a0_0 ++ x3_3) ++ t182).size + 1) = False := eq_false (Nat.not_lt.2 c13)
              try have c13b3 := c13b2
              try simp only [ByteArray.size_append, pw_size_mk, List.size_toArray, List.length_cons, List.length_nil, Nat.zero_add] at c13b3
              replace H := Option.bind_eq_some_iff.mp H
              obtain ⟨t183, A140, H⟩ := H
              replace H : (if (((a0_0 ++ x3_3) ++ t182) ++ (⟨#[32]⟩ : ByteArray)).size + t183.size ≤ 9223372036854775807 then (chicaneref14_Lines.l0 kj3 (([(((a0_0 ++ x3_3) ++ t182) ++ (⟨#[32]⟩ : ByteArray)) ++ t183] : List ByteArray)) 0 a0_0 a0_1 a0_2 l0_3) else (none)) = some r := H
              have A14 := Aside0.mk A140
              clear A140
              by_cases c15 : (((a0_0 ++ x3_3) ++ t182) ++ (⟨#[32]⟩ : ByteArray)).size + t183.size ≤ 9223372036854775807
              · rw [if_pos c15] at H
                have c15b0 := eq_true c15
                have c15b1 : decide ((((a0_0 ++ x3_3) ++ t182) ++ (⟨#[32]⟩ : ByteArray)).size + t183.size ≤ 9223372036854775807) = true := decide_eq_true c15
                try have c15b2 : (9223372036854775807 < (((a0_0 ++ x3_3) ++ t182) ++ (⟨#[32]⟩ : ByteArray)).size + t183.size) = False := eq_false (Nat.not_lt.2 c15)
                try have c15b3 := c15b2
                try simp only [ByteArray.size_append, pw_size_mk, List.size_toArray, List.length_cons, List.length_nil, Nat.zero_add] at c15b3
                obtain ⟨y184, hy184⟩ : ∃ y_ : List ByteArray, y_ = (([(((a0_0 ++ x3_3) ++ t182) ++ (⟨#[32]⟩ : ByteArray)) ++ t183] : List ByteArray)) := ⟨_, rfl⟩
                replace H : (chicaneref14_Lines.l0 kj3 y184 0 a0_0 a0_1 a0_2 l0_3) = some r := by first | (rw [hy184]; with_reducible exact H) | (have H2_ := (Option.bind_some _ _).symm.trans H; rw [hy184]; with_reducible exact H2_) | (have H2_ := (Option.bind_some _ _).symm.trans H; with_reducible exact H2_) | with_reducible exact H | (rw [hy184]; exact H) | exact H
                have Ny184 := Aside0.mk hy184
                clear hy184
                have H' := Aside0.mk H
                clear H
                try go_wp2
                have n0_ := Aside0.mk (blk_drew BK180.out)
                have n1_ := Aside0.mk (below_drew1 HB.out)
                clear BK180
                clear HB
                have BK180 := n0_
                have HB := n1_
                clear n0_ n1_
                refine start_ (n := 16) (S := fun w' => w'.cell? ⟨gb180, 0, none⟩ = some (.string a0_0) ∧ w'.cell? ⟨gb180, 1, none⟩ = some (.bool a0_1) ∧ w'.cell? ⟨gb180, 2, none⟩ = some (.int .i64 a0_2) ∧ w'.cell? ⟨gb180, 3, none⟩ = some (.slice A0_3 l0_3.length c0_3)) (ds := []) #[false, false, false, false, false, false, false, false, false, false, false, false, false, false, false, false] (by kernel_rfl) rfl rfl ⟨(blk_cell BK180.out 0).trans rfl, (blk_cell BK180.out 1).trans rfl, (blk_cell BK180.out 2).trans rfl, (blk_cell BK180.out 3).trans rfl⟩ (fun hHeld => ?_); refine with_tabW chicaneref14_Lines.tab6 chicaneref14_Lines.bits6 (fun HT_ HW_ => ?_)
                generalize wc.drew = w16 at BK180 HB hHeld ⊢
                refine pure_ (i := 0) (N := some 11) (v := ?_) (a' := ?_) #[true, false, false, false, false, false, false, false, false, false, false, false, false, false, false, false] rfl rfl (any_of HT_.out (by kernel_rfl)) (fun _ _ _ h => h) (Or.inl ⟨by rfl, ?_⟩) ?_ ?_
                rotate_left
                · intro w'
                  go_simp
                  with_reducible rfl
                rotate_left
                · simp only [Act.put, List.setIfInBounds_toArray, List.set_cons_zero, List.set_cons_succ, i64_w, i32_w]
                  rfl
                refine pure_ (i := 2) (N := some 13) (v := ?_) (a' := ?_) #[true, false, true, false, false, false, false, false, false, false, false, false, false, false, false, false] rfl rfl (any_of HT_.out (by kernel_rfl)) (fun _ _ _ h => h) (Or.inl ⟨by rfl, ?_⟩) ?_ ?_
                rotate_left
                · intro w'
                  go_simp
                  with_reducible rfl
                rotate_left
                · simp only [Act.put, List.setIfInBounds_toArray, List.set_cons_zero, List.set_cons_succ, i64_w, i32_w]
                  rfl
                refine pure_ (i := 4) (N := some 15) (v := ?_) (a' := ?_) #[true, false, true, false, true, false, false, false, false, false, false, false, false, false, false, false] rfl rfl (any_of HT_.out (by kernel_rfl)) (fun _ _ _ h => h) (Or.inl ⟨by rfl, ?_⟩) ?_ ?_
                rotate_left
                · intro w'
                  go_simp
                  with_reducible rfl
                rotate_left
                · simp only [Act.put, List.setIfInBounds_toArray, List.set_cons_zero, List.set_cons_succ, i64_w, i32_w]
                  rfl
                refine pure_ (i := 9) (N := some 20) (v := ?_) (a' := ?_) #[true, false, true, false, true, false, false, false, false, true, false, false, false, false, false, false] rfl rfl (any_of HT_.out (by kernel_rfl)) (fun _ _ _ h => h) (Or.inl ⟨by rfl, ?_⟩) ?_ ?_
                rotate_left
                · intro w'
                  go_simp
                  with_reducible rfl
                rotate_left
                · simp only [Act.put, List.setIfInBounds_toArray, List.set_cons_zero, List.set_cons_succ, i64_w, i32_w]
                  rfl
                refine take_ (i := 1) (N := some 12) (v := ?_) (a' := ?_) #[true, true, true, false, true, false, false, false, false, true, false, false, false, false, false, false] rfl rfl (take_ofW HT_.out HW_.out (by kernel_rfl)) (fun _ _ _ h => h) (Or.inl ⟨by rfl, ?_⟩) hHeld ?_ ?_
                rotate_left
                · rintro w' ⟨s0, s1, s2, s3⟩
                  go_simp
                  with_reducible rfl
                rotate_left
                · simp only [Act.put, List.setIfInBounds_toArray, List.set_cons_zero, List.set_cons_succ, i64_w, i32_w]
                  rfl
                refine pure_ (i := 3) (N := some 14) (v := ?_) (a' := ?_) #[true, true, true, true, true, false, false, false, false, true, false, false, false, false, false, false] rfl rfl (any_of HT_.out (by kernel_rfl)) (fun _ _ _ h => h) (Or.inl ⟨by rfl, ?_⟩) ?_ ?_
                rotate_left
                · intro w'
                  go_simp
                  with_reducible rfl
                rotate_left
                · simp only [Act.put, List.setIfInBounds_toArray, List.set_cons_zero, List.set_cons_succ, i64_w, i32_w]
                  rfl
                refine take_ (i := 5) (N := some 16) (v := ?_) (a' := ?_) #[true, true, true, true, true, true, false, false, false, true, false, false, false, false, false, false] rfl rfl (take_ofW HT_.out HW_.out (by kernel_rfl)) (fun _ _ _ h => h) (Or.inl ⟨by rfl, ?_⟩) hHeld ?_ ?_
                rotate_left
                · rintro w' ⟨s0, s1, s2, s3⟩
                  go_simp
                  with_reducible rfl
                rotate_left
                · simp only [Act.put, List.setIfInBounds_toArray, List.set_cons_zero, List.set_cons_succ, i64_w, i32_w]
                  rfl
                refine take_ (i := 10) (N := some 21) (v := ?_) (a' := ?_) #[true, true, true, true, true, true, false, false, false, true, true, false, false, false, false, false] rfl rfl (take_ofW HT_.out HW_.out (by kernel_rfl)) (fun _ _ _ h => h) (Or.inl ⟨by rfl, ?_⟩) hHeld ?_ ?_
                rotate_left
                · rintro w' ⟨s0, s1, s2, s3⟩
                  go_simp
                  with_reducible rfl
                rotate_left
                · simp only [Act.put, List.setIfInBounds_toArray, List.set_cons_zero, List.set_cons_succ, i64_w, i32_w]
                  rfl
                refine pure_ (i := 11) (N := some 22) (v := ?_) (a' := ?_) #[true, true, true, true, true, true, false, false, false, true, true, true, false, false, false, false] rfl rfl (any_of HT_.out (by kernel_rfl)) (fun _ _ _ h => h) (Or.inl ⟨by rfl, ?_⟩) ?_ ?_
                rotate_left
                · intro w'
                  go_simp
                  with_reducible rfl
                rotate_left
                · simp only [Act.put, List.setIfInBounds_toArray, List.set_cons_zero, List.set_cons_succ, i64_w, i32_w]
                  rfl
                refine one_ (i := 6) (N := some 17) #[true, true, true, true, true, true, true, false, false, true, true, true, false, false, false, false] rfl rfl (one_of HT_.out (by kernel_rfl)) (by decide) (fun K hK => ?_)
                refine goes_ Try.func28 (by kernel_rfl) rfl #[.int .i64 a0_2] (by rfl) rfl rfl (by (try simp only [List.map_toArray, List.map_cons, List.map_nil]); first | done | rfl | (simp only [List.length_drop, List.length_take]; rfl)) ?_
                with_reducible refine (chicaneref01_Text.calls kj3 a0_2 t182 _ A11.out).mono ?_
                rintro e w' ⟨rfl, ⟨nd, rfl⟩⟩
                refine ⟨_, rfl, ?_⟩
                refine hK.out _ _ ⟨(blk_cell BK180.out 0).trans rfl, (blk_cell BK180.out 1).trans rfl, (blk_cell BK180.out 2).trans rfl, (blk_cell BK180.out 3).trans rfl⟩ (fun hHeld => ?_)
                clear hK K
                refine norm_ (a' := ?_) ?_ ?_
                rotate_left
                · show Act.put _ (some 17) _ = _
                  simp only [Act.put, List.setIfInBounds_toArray, List.set_cons_zero, List.set_cons_succ, i64_w, i32_w]
                  rfl
                refine pure_ (i := 7) (N := some 18) (v := ?_) (a' := ?_) #[true, true, true, true, true, true, true, true, false, true, true, true, false, false, false, false] rfl rfl (any_of HT_.out (by kernel_rfl)) (fun _ _ _ h => h) (Or.inl ⟨by rfl, ?_⟩) ?_ ?_
                rotate_left
                · intro w'
                  go_simp
                  with_reducible rfl
                rotate_left
                · simp only [Act.put, List.setIfInBounds_toArray, List.set_cons_zero, List.set_cons_succ, i64_w, i32_w]
                  rfl
                refine pure_ (i := 8) (N := some 19) (v := ?_) (a' := ?_) #[true, true, true, true, true, true, true, true, true, true, true, true, false, false, false, false] rfl rfl (any_of HT_.out (by kernel_rfl)) (fun _ _ _ h => h) (Or.inl ⟨by rfl, ?_⟩) ?_ ?_
                rotate_left
                · intro w'
                  go_simp
                  with_reducible rfl
                rotate_left
                · simp only [Act.put, List.setIfInBounds_toArray, List.set_cons_zero, List.set_cons_succ, i64_w, i32_w]
                  rfl
                refine one_ (i := 12) (N := some 23) #[true, true, true, true, true, true, true, true, true, true, true, true, true, false, false, false] rfl rfl (one_of HT_.out (by kernel_rfl)) (by decide) (fun K hK => ?_)
                refine goes_ Try.func28 (by kernel_rfl) rfl #[.int .i64 (l0_3.length : Int)] (by rfl) rfl rfl (by (try simp only [List.map_toArray, List.map_cons, List.map_nil]); first | done | rfl | (simp only [List.length_drop, List.length_take]; rfl)) ?_
                with_reducible refine (chicaneref01_Text.calls kj3 (l0_3.length : Int) t183 _ A14.out).mono ?_
                rintro e w' ⟨rfl, ⟨nd, rfl⟩⟩
                refine ⟨_, rfl, ?_⟩
                refine hK.out _ _ ⟨(blk_cell BK180.out 0).trans rfl, (blk_cell BK180.out 1).trans rfl, (blk_cell BK180.out 2).trans rfl, (blk_cell BK180.out 3).trans rfl⟩ (fun hHeld => ?_)
                clear hK K
                refine norm_ (a' := ?_) ?_ ?_
                rotate_left
                · show Act.put _ (some 23) _ = _
                  simp only [Act.put, List.setIfInBounds_toArray, List.set_cons_zero, List.set_cons_succ, i64_w, i32_w]
                  rfl
                refine pure_ (i := 13) (N := some 24) (v := ?_) (a' := ?_) #[true, true, true, true, true, true, true, true, true, true, true, true, true, true, false, false] rfl rfl (any_of HT_.out (by kernel_rfl)) (fun _ _ _ h => h) (Or.inl ⟨by rfl, ?_⟩) ?_ ?_
                rotate_left
                · intro w'
                  go_simp
                  with_reducible rfl
                rotate_left
                · simp only [Act.put, List.setIfInBounds_toArray, List.set_cons_zero, List.set_cons_succ, i64_w, i32_w]
                  rfl
                refine one_ (i := 14) (N := some 25) #[true, true, true, true, true, true, true, true, true, true, true, true, true, true, true, false] rfl rfl (one_of HT_.out (by kernel_rfl)) (by decide) (fun K hK => ?_)
                refine Kd.R_lit_step Kd.string _ 9 ?hg (N := 25) ?hd (xs := ([(((a0_0 ++ x3_3) ++ t182) ++ (⟨#[32]⟩ : ByteArray)) ++ t183] : List ByteArray)) (inner := [.string ((((a0_0 ++ x3_3) ++ t182) ++ (⟨#[32]⟩ : ByteArray)) ++ t183)]) (ok := fun _ => True) (okp := fun _ => True) ?hr ?hp (fun _ hk => hk) trivial (Below.refl _ _) (Nat.le_refl _) (by simp) ?_; (case hd => rfl); (case hg => rfl); (case hr => first | (go_simp; done) | (go_simp; rfl)); (case hp => exact (Reps.one (show Kd.M Kd.string _ _ _ ((((a0_0 ++ x3_3) ++ t182) ++ (⟨#[32]⟩ : ByteArray)) ++ t183) [.string ((((a0_0 ++ x3_3) ++ t182) ++ (⟨#[32]⟩ : ByteArray)) ++ t183)] from rfl) (Reps.none _ _)))
                intro v185 w17 ho18 hb hg_ hnew_
                clear hg_ hnew_
                (first | rw [← Ny184.out] at ho18 | (simp only [Int.reduceToNat] at ho18; rw [← Ny184.out] at ho18))
                have n0_ := Aside0.mk (Kd.R_lower ho18 (below_size (by repeat (first | (with_reducible first | exact HB.out | apply below_alloc | apply pw_below_drewN | apply below_drew1 | refine below_set ?_ GE180.out) | exact HB.out))))
                have n1_ := Aside0.mk (blk_below (g := gb180) (o := .cells #[.string a0_0, .bool a0_1, .int .i64 a0_2, .slice A0_3 l0_3.length c0_3] 24 (0, 0)) (by (with_reducible repeat (first | refine blk_drewN ?_ _ | refine blk_drew ?_ | refine blk_alloc ?_ _)); exact BK180.out) hb)
                have n2_ := Aside0.mk (below_step (by repeat (first | (with_reducible first | exact HB.out | apply below_alloc | apply pw_below_drewN | apply below_drew1 | refine below_set ?_ GE180.out) | exact HB.out)) hb)
                clear BK180
                clear HB
                have HO186 := n0_
                have BK180 := n1_
                have HB := n2_
                clear n0_ n1_ n2_
                clear hb ho18
                refine hK.out _ _ ⟨(blk_cell BK180.out 0).trans rfl, (blk_cell BK180.out 1).trans rfl, (blk_cell BK180.out 2).trans rfl, (blk_cell BK180.out 3).trans rfl⟩ (fun hHeld => ?_)
                clear hK K
                refine norm_ (a' := ?_) ?_ ?_
                rotate_left
                · show Act.put _ (some 25) _ = _
                  simp only [Act.put, List.setIfInBounds_toArray, List.set_cons_zero, List.set_cons_succ, i64_w, i32_w]
                  rfl
                refine pure_ (i := 15) (N := some 4) (v := ?_) (a' := ?_) #[true, true, true, true, true, true, true, true, true, true, true, true, true, true, true, true] rfl rfl (any_of HT_.out (by kernel_rfl)) (fun _ _ _ h => h) (Or.inl ⟨by rfl, ?_⟩) ?_ ?_
                rotate_left
                · intro w'
                  go_simp
                  with_reducible rfl
                rotate_left
                · simp only [Act.put, List.setIfInBounds_toArray, List.set_cons_zero, List.set_cons_succ, i64_w, i32_w]
                  rfl
                refine done_ (done_of HT_.out (by kernel_rfl)) ?_
                try go_wp2
                go_loopg [4, 5] kj3 (fun kq v4 v5 w' => ∃ (x4_2 : List ByteArray) (x5_2 : Int), v5 = .int .i64 x5_2 ∧ Aside0 (chicaneref14_Lines.l0 kq x4_2 x5_2 a0_0 a0_1 a0_2 l0_3 = some r) ∧ Aside0 (kq ≤ kj3) ∧ Aside0 (Kd.R Kd.string 9 w' w.heap.size (fun _ => True) v4 x4_2) ∧ Aside0 (w'.heap[gb180]? = some (.cells #[.string a0_0, .bool a0_1, .int .i64 a0_2, (.slice A0_3 l0_3.length c0_3)] 24 (0, 0))) ∧ Aside0 (Below w.heap.size w w'))
                case atStart => exact ⟨(y184), (0), (by first | rfl | (simp; done) | (simp [*]; done)), H', ⟨Nat.le_refl _⟩, ⟨by (with_reducible repeat (first | apply Kd.R_alloc | apply Kd.R_drewN | apply Kd.R_drew)); exact HO186.out⟩, ⟨by (with_reducible repeat (first | refine blk_drewN ?_ _ | refine blk_drew ?_ | refine blk_alloc ?_ _)); exact BK180.out⟩, ⟨by repeat (first | (with_reducible first | exact HB.out | apply below_alloc | apply pw_below_drewN | apply below_drew1 | refine below_set ?_ GE180.out) | exact HB.out)⟩⟩
                case round =>
                  clear H'
                  try clear c1
                  try clear c2
                  try clear p2
                  try clear c3
                  try clear c3b0
                  try clear c3b1
                  try clear c9
                  try clear c10
                  try clear c10b0
                  try clear c10b1
                  try clear c10b2
                  try clear c10b3
                  try clear c12
                  try clear c12b0
                  try clear c12b1
                  try clear c12b2
                  try clear c12b3
                  try clear c13
                  try clear c13b0
                  try clear c13b1
                  try clear c13b2
                  try clear c13b3
                  try clear c15
                  try clear c15b0
                  try clear c15b1
                  try clear c15b2
                  try clear c15b3
                  try clear hcz6_0
                  try clear hcz6_1
                  try clear hcz6_2
                  try clear hcz6_3
                  try clear hcz8_0
                  try clear hcz8_1
                  try clear hcz8_2
                  try clear hcz8_3
                  try clear hfz6_0
                  try clear hfz6_1
                  try clear hfz6_2
                  try clear hfz6_3
                  try clear hfz8_0
                  try clear hfz8_1
                  try clear hfz8_2
                  try clear hfz8_3
                  try clear p2
                  obtain ⟨x4_2, x5_2, rfl, HA, HK2, HO_4, BK180, HB⟩ := hrel
                  cases gk with
                  | zero => exact absurd HA.out (by simp [chicaneref14_Lines.l0])
                  | succ k2 =>
                    have H := HA.out
                    clear HA
                    simp only [chicaneref14_Lines.l0] at H
                    by_cases c19 : x5_2 < (l0_3.length : Int)
                    · rw [if_pos c19] at H
                      have c19b0 : decide (x5_2 < (l0_3.length : Int)) = true := decide_eq_true c19
                      clear c19
                      by_cases c20 : 0 ≤ x5_2
                      · rw [if_pos c20] at H
                        have c20b0 : decide (0 ≤ x5_2) = true := decide_eq_true c20
                        clear c20
                        replace H := Option.bind_eq_some_iff.mp H
                        obtain ⟨t188, A210, H⟩ := H
                        replace H : (if x4_2.length < 8796093022208 then (chicaneref14_Lines.l0 k2 (x4_2 ++ [t188]) (wrap64 (x5_2 + 1)) a0_0 a0_1 a0_2 l0_3) else (none)) = some r := H
                        have A21 := Aside0.mk A210
                        clear A210
                        by_cases c22 : x4_2.length < 8796093022208
                        · rw [if_pos c22] at H
                          have LMc22 := Aside0.mk c22
                          clear c22
                          obtain ⟨y189, hy189⟩ : ∃ y_ : List ByteArray, y_ = (x4_2 ++ [t188]) := ⟨_, rfl⟩
                          replace H : (chicaneref14_Lines.l0 k2 y189 (wrap64 (x5_2 + 1)) a0_0 a0_1 a0_2 l0_3) = some r := by first | (rw [hy189]; with_reducible exact H) | (have H2_ := (Option.bind_some _ _).symm.trans H; rw [hy189]; with_reducible exact H2_) | (have H2_ := (Option.bind_some _ _).symm.trans H; with_reducible exact H2_) | with_reducible exact H | (rw [hy189]; exact H) | exact H
                          have Ny189 := Aside0.mk hy189
                          clear hy189
                          have H' := Aside0.mk H
                          clear H
                          have hcz23_0 : wr.cell? ⟨gb180, 0, none⟩ = some (.string a0_0) := (blk_cell BK180.out 0).trans rfl
                          have hcz23_1 : wr.cell? ⟨gb180, 1, none⟩ = some (.bool a0_1) := (blk_cell BK180.out 1).trans rfl
                          have hcz23_2 : wr.cell? ⟨gb180, 2, none⟩ = some (.int .i64 a0_2) := (blk_cell BK180.out 2).trans rfl
                          have hcz23_3 : wr.cell? ⟨gb180, 3, none⟩ = some (.slice A0_3 l0_3.length c0_3) := (blk_cell BK180.out 3).trans rfl
                          have hfz23_0 := blk_frozen BK180.out 0
                          have hfz23_1 := blk_frozen BK180.out 1
                          have hfz23_2 := blk_frozen BK180.out 2
                          have hfz23_3 := blk_frozen BK180.out 3
                          have p187 : 0 ≤ (x5_2 : Int) := of_decide_eq_true (by first | (with_reducible assumption) | assumption)
                          have q187 : x5_2 < (l0_3.length : Int) := of_decide_eq_true (by first | (with_reducible assumption) | assumption)
                          obtain ⟨ad187, e187, hx187_0, hx187_1, hx187_2, hx187_3, hx187_4, hx187_5⟩ := at_T39 HR0_3.out x5_2 p187 q187
                          cases e187
                          replace hx187_0 := (HB.out.cell (World.block_lt_of_cell? w _ hx187_0)).trans hx187_0
                          replace hx187_1 := (HB.out.cell (World.block_lt_of_cell? w _ hx187_1)).trans hx187_1
                          replace hx187_2 := (HB.out.cell (World.block_lt_of_cell? w _ hx187_2)).trans hx187_2
                          replace hx187_3 := (HB.out.cell (World.block_lt_of_cell? w _ hx187_3)).trans hx187_3
                          replace hx187_4 := (HB.out.cell (World.block_lt_of_cell? w _ hx187_4)).trans hx187_4
                          replace hx187_5 := (HB.out.cell (World.block_lt_of_cell? w _ hx187_5)).trans hx187_5
                          replace p187 := eq_true p187
                          replace q187 := eq_true q187
                          go_wp2_with (first | ((with_reducible refine gate_callee (f := 29) rfl ?_); refine goesL_ (some 39) rfl rfl Try.func29 (by kernel_rfl) rfl #[.agg #[.string ((rd_T39 l0_3 x5_2).f0), .int .i64 ((rd_T39 l0_3 x5_2).f1), .bool ((rd_T39 l0_3 x5_2).f2), .int .i64 ((rd_T39 l0_3 x5_2).f3), .int .i64 ((rd_T39 l0_3 x5_2).f4), .int .i64 ((rd_T39 l0_3 x5_2).f5)]] rfl (by (try simp only [List.map_toArray, List.map_cons, List.map_nil]); first | done | rfl | (simp only [List.length_drop, List.length_take]; rfl)) ?_; (with_reducible refine (chicaneref09_Text.calls ((rd_T39 l0_3 x5_2).f0) ((rd_T39 l0_3 x5_2).f1) ((rd_T39 l0_3 x5_2).f2) ((rd_T39 l0_3 x5_2).f3) ((rd_T39 l0_3 x5_2).f4) ((rd_T39 l0_3 x5_2).f5) t188 _ A21.out).mono ?_); rintro e w24 ⟨rfl, hb⟩; refine ⟨_, rfl, ?_⟩; have n0_ := Aside0.mk (Kd.R_below (by (with_reducible repeat (first | apply Kd.R_alloc | apply Kd.R_drewN | apply Kd.R_drew)); exact HO_4.out) hb); have n1_ := Aside0.mk (blk_below (g := gb180) (o := .cells #[.string a0_0, .bool a0_1, .int .i64 a0_2, .slice (some ad187) l0_3.length c0_3] 24 (0, 0)) (by (with_reducible repeat (first | refine blk_drewN ?_ _ | refine blk_drew ?_ | refine blk_alloc ?_ _)); exact BK180.out) hb); have n2_ := Aside0.mk (below_step (by repeat (first | (with_reducible first | exact HB.out | apply below_alloc | apply pw_below_drewN | apply below_drew1 | refine below_set ?_ GE180.out) | exact HB.out)) hb); clear HO_4; clear BK180; clear HB; have HO_4 := n0_; have BK180 := n1_; have HB := n2_; clear n0_ n1_ n2_; (try clear hb); (try clear hb2); (try clear hk); (try clear hi)) | ((with_reducible refine gate_builtin (b := .append) (xs := #[.tmp 33, .tmp 40]) rfl ?_); at_builtin; refine Kd.R_append Kd.string (w0 := w) w.heap.size rfl (.tmp 33) (.tmp 40) 28 9 (.string ⟨#[]⟩) 16 rfl Try.underlying28 info9 rfl (by decide) (by omega) u4 x4_2 t188 [.string t188] (fun _ => True) (fun _ => False) rfl rfl ?aP (fun _ hk => hk.elim) ?aF ?aO ?aB ?aS ?aL ?_; (case aP => exact rfl); (case aB => exact (by repeat (first | (with_reducible first | exact HB.out | apply below_alloc | apply pw_below_drewN | apply below_drew1 | refine below_set ?_ GE180.out) | exact HB.out))); (case aF => exact (fun _ _ => trivial)); (case aO => exact (by (with_reducible repeat (first | apply Kd.R_alloc | apply Kd.R_drewN | apply Kd.R_drew)); exact HO_4.out)); (case aS => exact (below_size (by repeat (first | (with_reducible first | exact HB.out | apply below_alloc | apply pw_below_drewN | apply below_drew1 | refine below_set ?_ GE180.out) | exact HB.out)))); (case aL => have := LMc22.out; omega); intro v190 w25 ho hb hg hat; rw [← Ny189.out] at ho; have n0_ := Aside0.mk (blk_grown (g := gb180) (o := .cells #[.string a0_0, .bool a0_1, .int .i64 a0_2, .slice (some ad187) l0_3.length c0_3] 24 (0, 0)) (by (with_reducible repeat (first | refine blk_drewN ?_ _ | refine blk_drew ?_ | refine blk_alloc ?_ _)); exact BK180.out) hg (Kd.R_ne HO_4.out BK180.out (by decide))); have n1_ := Aside0.mk (hb); have n2_ := Aside0.mk (ho); clear BK180; clear HB; clear HO_4; have BK180 := n0_; have HB := n1_; have HO191 := n2_; clear n0_ n1_ n2_; clear ho hb hg hat))
                          go_roundg k2
                          case measure => have := HJ3.out; have := HK2.out; omega
                          case rel => exact ⟨(y189), (wrap64 (x5_2 + 1)), (by first | rfl | (simp; done) | (simp [*]; done)), H', ⟨by have := HJ3.out; have := HK2.out; omega⟩, ⟨by (with_reducible repeat (first | apply Kd.R_alloc | apply Kd.R_drewN | apply Kd.R_drew)); exact HO191.out⟩, ⟨by (with_reducible repeat (first | refine blk_drewN ?_ _ | refine blk_drew ?_ | refine blk_alloc ?_ _)); exact BK180.out⟩, ⟨by repeat (first | (with_reducible first | exact HB.out | apply below_alloc | apply pw_below_drewN | apply below_drew1 | refine below_set ?_ GE180.out) | exact HB.out)⟩⟩
                        · rw [if_neg c22] at H
                          exact absurd H (by simp)
                      · rw [if_neg c20] at H
                        exact absurd H (by simp)
                    · rw [if_neg c19] at H
                      have c19b0 : decide (x5_2 < (l0_3.length : Int)) = false := decide_eq_false c19
                      clear c19
                      obtain rfl := Option.some.inj H
                      have hcz26_0 : wr.cell? ⟨gb180, 0, none⟩ = some (.string a0_0) := (blk_cell BK180.out 0).trans rfl
                      have hcz26_1 : wr.cell? ⟨gb180, 1, none⟩ = some (.bool a0_1) := (blk_cell BK180.out 1).trans rfl
                      have hcz26_2 : wr.cell? ⟨gb180, 2, none⟩ = some (.int .i64 a0_2) := (blk_cell BK180.out 2).trans rfl
                      have hcz26_3 : wr.cell? ⟨gb180, 3, none⟩ = some (.slice A0_3 l0_3.length c0_3) := (blk_cell BK180.out 3).trans rfl
                      have hfz26_0 := blk_frozen BK180.out 0
                      have hfz26_1 := blk_frozen BK180.out 1
                      have hfz26_2 := blk_frozen BK180.out 2
                      have hfz26_3 := blk_frozen BK180.out 3
                      go_wp2
                      go_ret
                      exact ⟨_, by first | rfl | (simp [errW_none, errW_some] <;> rfl) | (simp [*, errW_none, errW_some] <;> rfl), by (with_reducible repeat (first | apply Kd.R_alloc | apply Kd.R_drewN | apply Kd.R_drew)); exact HO_4.out, by repeat (first | (with_reducible first | exact HB.out | apply below_alloc | apply pw_below_drewN | apply below_drew1 | refine below_set ?_ GE180.out) | exact HB.out)⟩
              · rw [if_neg c15] at H
                exact absurd H (by simp)
            · rw [if_neg c13] at H
              exact absurd H (by simp)
          · rw [if_neg c12] at H
            exact absurd H (by simp)
        · rw [if_neg c10] at H
          exact absurd H (by simp)
  · rw [if_neg c3] at H
    have c3b0 : (t181 == 0) = false := beq_eq_false_iff_ne.mpr c3
    have c3b1 : (t181 != 0) = true := bne_iff_ne.mpr c3
    obtain rfl := Option.some.inj H
    go_enter Try.func10, Try.ntmps10
    go_wp2_with (first | ((with_reducible refine gate_dst (N := 1) rfl ?_); refine box_event ?hg (N := 1) ?hd (cs := #[.string a0_0, .bool a0_1, .int .i64 a0_2, .slice A0_3 l0_3.length c0_3]) (t := 24) ?hr ?_; (case hd => rfl); (case hg => rfl); (case hr => first | (go_simp; done) | (go_simp; rfl)); intro gb180 hg w27 hbox hb; have n0_ := Aside0.mk (below_step (by repeat (first | (with_reducible first | exact HB.out | apply below_alloc | apply pw_below_drewN | apply below_drew1) | exact HB.out)) hb); have n1_ := Aside0.mk (hbox); have n2_ := Aside0.mk ((by rw [hg]; exact (below_size (by repeat (first | (with_reducible first | exact HB.out | apply below_alloc | apply pw_below_drewN | apply below_drew1) | exact HB.out))) : w.heap.size ≤ gb180)); have n3_ := Aside0.mk ((by rw [hg]; exact (below_size (by repeat (first | (with_reducible first | exact HB.out | apply below_alloc | apply pw_below_drewN | apply below_drew1) | exact HB.out))) : w.heap.size ≤ gb180)); clear HB; have HB := n0_; have BK180 := n1_; have GW180 := n2_; have GE180 := n3_; clear n0_ n1_ n2_ n3_; clear hb hbox hg; have hcz28_0 : w27.cell? ⟨gb180, 0, none⟩ = some (.string a0_0) := (blk_cell BK180.out 0).trans rfl; have hcz28_1 : w27.cell? ⟨gb180, 1, none⟩ = some (.bool a0_1) := (blk_cell BK180.out 1).trans rfl; have hcz28_2 : w27.cell? ⟨gb180, 2, none⟩ = some (.int .i64 a0_2) := (blk_cell BK180.out 2).trans rfl; have hcz28_3 : w27.cell? ⟨gb180, 3, none⟩ = some (.slice A0_3 l0_3.length c0_3) := (blk_cell BK180.out 3).trans rfl; have hfz28_0 := blk_frozen BK180.out 0; have hfz28_1 := blk_frozen BK180.out 1; have hfz28_2 := blk_frozen BK180.out 2; have hfz28_3 := blk_frozen BK180.out 3) | ((with_reducible refine gate_callee (f := 12) rfl ?_); refine goesL_ (some 7) rfl rfl Try.func12 (by kernel_rfl) rfl #[.agg #[.string a0_0, .bool a0_1, .int .i64 a0_2, .slice A0_3 l0_3.length c0_3]] rfl (by (try simp only [List.map_toArray, List.map_cons, List.map_nil]); first | done | rfl | (simp only [List.length_drop, List.length_take]; rfl)) ?_; (with_reducible refine (chicaneref14_Check.calls k a0_0 a0_1 a0_2 _ _ l0_3 t181 _ ?side1 ?side2 A2.out).mono ?_); (case side1 => repeat (first | exact (Kd.C_below HR0_3.out HB.out) | (with_reducible refine Kd.C_alloc ?_ _) | (with_reducible refine Kd.C_drewN ?_ _) | (with_reducible refine Kd.C_drew ?_))); (case side2 => exact HC0_3.out); rintro e w29 ⟨rfl, hb⟩; refine ⟨_, rfl, ?_⟩; have n0_ := Aside0.mk (blk_below (g := gb180) (o := .cells #[.string a0_0, .bool a0_1, .int .i64 a0_2, .slice A0_3 l0_3.length c0_3] 24 (0, 0)) (by (with_reducible repeat (first | refine blk_drewN ?_ _ | refine blk_drew ?_ | refine blk_alloc ?_ _)); exact BK180.out) hb); have n1_ := Aside0.mk (below_step (by repeat (first | (with_reducible first | exact HB.out | apply below_alloc | apply pw_below_drewN | apply below_drew1 | refine below_set ?_ GE180.out) | exact HB.out)) hb); clear BK180; clear HB; have BK180 := n0_; have HB := n1_; clear n0_ n1_; (try clear hb); (try clear hb2); (try clear hk); (try clear hi)))
    go_ret
    exact ⟨_, by first | rfl | (simp [errW_none, errW_some] <;> rfl) | (simp [*, errW_none, errW_some] <;> rfl), by first | exact Kd.R_nil _ _ _ _ _ | exact Kd.N_nil _ _ _ _ _ | exact Kd.V_nil _ _ _ _ _ | exact Kd.Q_nil _ _ _ _ _ | exact Kd.S_nil _ _ _ _ _, by repeat (first | (with_reducible first | exact HB.out | apply below_alloc | apply pw_below_drewN | apply below_drew1 | refine below_set ?_ GE180.out) | exact HB.out)⟩
end Go.Proofs.Ytlglbpjccpdloaa.PNamA
namespace Go.Proofs.Ytlglbpjccpdloaa.PNamA
open Go.Proofs.Ytlglbpjccpdloaa.Ext Go.Proofs.Ytlglbpjccpdloaa.ToxZ Go.RowKit Go.Proofs.YtlglbpjccpdloaaW.PrintWords Go.Proofs.YtlglbpjccpdloaaW.PrintLast Go.Proofs.YtlglbpjccpdloaaW.PrintMore
attribute [local go_sem] max2_int min2_int max_two min_two max_three min_three max_four min_four   -- for this text's walks alone
set_option linter.unusedVariables false
set_option linter.unusedSimpArgs false
def chicaneref14_Right.l0 : Nat → List (S24) → Int → Option (Bool)
  | 0, _, _ => none
  | k + 1, x0, x3 => if x3 < (x0.length : Int) then (if 0 ≤ x3 then ((chicaneref14_Check.f k ((rd_T24 x0 x3).f0) ((rd_T24 x0 x3).f1) ((rd_T24 x0 x3).f2) ((rd_T24 x0 x3).f3)).bind fun t249 => (if t249 = 0 then (if x3 > 0 then (if 0 ≤ (wrap64 (x3 - 1)) then (if (wrap64 (x3 - 1)) < (x0.length : Int) then (if ((Op.bytesLess (((rd_T24 x0 (wrap64 (x3 - 1))).f0).toList) (((rd_T24 x0 x3).f0).toList)) = true) then (chicaneref14_Right.l0 k x0 (wrap64 (x3 + 1))) else (some false)) else (none)) else (none)) else (chicaneref14_Right.l0 k x0 (wrap64 (x3 + 1)))) else (some false))) else (none)) else (some (decide ((x0.length : Int) ≤ 8)))
def chicaneref14_Right.f (k : Nat) (l0 : List (S24)) : Option (Bool) := chicaneref14_Right.l0 k l0 0
theorem chicaneref14_Right.mono_l : ∀ k, (∀ y0 y1, LeO (chicaneref14_Right.l0 k y0 y1) (chicaneref14_Right.l0 (k + 1) y0 y1))
  | 0 => fun _ _ r h => by simp [chicaneref14_Right.l0] at h
  | k + 1 => by
    have ih0 := chicaneref14_Right.mono_l k
    · intro y0 y1
      unfold chicaneref14_Right.l0
      repeat' first
      | (with_reducible exact ih0 _ _)
      | (with_reducible exact chicaneref14_Check.mono _ _ _ _ _)
      | (with_reducible exact LeO.refl _)
      | (with_reducible exact LeO.none _)
      | (with_reducible refine LeO.ite ?_ ?_)
      | (with_reducible refine LeO.bind ?_ (fun _ => ?_))
      | exact ih0 _ _
      | exact chicaneref14_Check.mono _ _ _ _ _
      | exact LeO.none _
      | refine LeO.ite ?_ ?_
      | refine LeO.bind ?_ (fun _ => ?_)
theorem chicaneref14_Right.mono : ∀ a0 k, LeO (chicaneref14_Right.f k a0) (chicaneref14_Right.f (k + 1) a0) := by
  intro a0 k
  have ih0 := chicaneref14_Right.mono_l k
  unfold chicaneref14_Right.f
  repeat' first
      | (with_reducible exact ih0 _ _)
      | (with_reducible exact chicaneref14_Check.mono _ _ _ _ _)
      | (with_reducible exact LeO.refl _)
      | (with_reducible exact LeO.none _)
      | (with_reducible refine LeO.ite ?_ ?_)
      | (with_reducible refine LeO.bind ?_ (fun _ => ?_))
      | exact ih0 _ _
      | exact chicaneref14_Check.mono _ _ _ _ _
      | exact LeO.none _
      | refine LeO.ite ?_ ?_
      | refine LeO.bind ?_ (fun _ => ?_)
end Go.Proofs.Ytlglbpjccpdloaa.PNamA
namespace Go.Proofs.Ytlglbpjccpdloaa.PNamA
open Go.Proofs.Ytlglbpjccpdloaa.Ext Go.Proofs.Ytlglbpjccpdloaa.ToxZ Go.RowKit Go.Proofs.YtlglbpjccpdloaaW.PrintWords Go.Proofs.YtlglbpjccpdloaaW.PrintLast Go.Proofs.YtlglbpjccpdloaaW.PrintMore
attribute [local go_sem] max2_int min2_int max_two min_two max_three min_three max_four min_four   -- for this text's walks alone
set_option linter.unusedVariables false
set_option linter.unusedSimpArgs false
attribute [local go_sem high] eqA39
def chicaneref14_Find.l0 : Nat → List (S24) → ByteArray → Int → Option (Int)
  | 0, _, _, _ => none
  | k + 1, x0, x1, x5 => if x5 < (x0.length : Int) then (if 0 ≤ x5 then (if ((rd_T24 x0 x5).f0).toList = x1.toList then (some x5) else (chicaneref14_Find.l0 k x0 x1 (wrap64 (x5 + 1)))) else (none)) else (some (-1))
def chicaneref14_Find.f (k : Nat) (l0 : List (S24)) (a1 : ByteArray) : Option (Int) := chicaneref14_Find.l0 k l0 a1 0
theorem chicaneref14_Find.mono_l : ∀ k, (∀ y0 y1 y2, LeO (chicaneref14_Find.l0 k y0 y1 y2) (chicaneref14_Find.l0 (k + 1) y0 y1 y2))
  | 0 => fun _ _ _ r h => by simp [chicaneref14_Find.l0] at h
  | k + 1 => by
    have ih0 := chicaneref14_Find.mono_l k
    · intro y0 y1 y2
      unfold chicaneref14_Find.l0
      repeat' first
      | (with_reducible exact ih0 _ _ _)
      | (with_reducible exact LeO.refl _)
      | (with_reducible exact LeO.none _)
      | (with_reducible refine LeO.ite ?_ ?_)
      | (with_reducible refine LeO.bind ?_ (fun _ => ?_))
      | exact ih0 _ _ _
      | exact LeO.none _
      | refine LeO.ite ?_ ?_
      | refine LeO.bind ?_ (fun _ => ?_)
theorem chicaneref14_Find.mono : ∀ a0 a1 k, LeO (chicaneref14_Find.f k a0 a1) (chicaneref14_Find.f (k + 1) a0 a1) := by
  intro a0 a1 k
  have ih0 := chicaneref14_Find.mono_l k
  unfold chicaneref14_Find.f
  repeat' first
      | (with_reducible exact ih0 _ _ _)
      | (with_reducible exact LeO.refl _)
      | (with_reducible exact LeO.none _)
      | (with_reducible refine LeO.ite ?_ ?_)
      | (with_reducible refine LeO.bind ?_ (fun _ => ?_))
      | exact ih0 _ _ _
      | exact LeO.none _
      | refine LeO.ite ?_ ?_
      | refine LeO.bind ?_ (fun _ => ?_)
mutual
def chicaneref14_Same.l0 : Nat → List (S24) → List (S24) → Int → Option (Bool)
  | 0, _, _, _ => none
  | k + 1, x0, x1, x5 => if x5 < (x0.length : Int) then (if 0 ≤ x5 then (if x5 < (x1.length : Int) then (if ((rd_T24 x0 x5).f0).toList = ((rd_T24 x1 x5).f0).toList then (if (((rd_T24 x0 x5).f1) != ((rd_T24 x1 x5).f1)) = true then (chicaneref14_Same.j1 k x0 x1 x5 true ((rd_T24 x0 x5).f0) ((rd_T24 x0 x5).f1) ((rd_T24 x0 x5).f2) ((rd_T24 x0 x5).f3) ((rd_T24 x1 x5).f0) ((rd_T24 x1 x5).f1) ((rd_T24 x1 x5).f2) ((rd_T24 x1 x5).f3)) else (if ((rd_T24 x0 x5).f2) = ((rd_T24 x1 x5).f2) then (chicaneref14_Same.j1 k x0 x1 x5 ((((rd_T24 x0 x5).f3).length : Int) != (((rd_T24 x1 x5).f3).length : Int)) ((rd_T24 x0 x5).f0) ((rd_T24 x0 x5).f1) ((rd_T24 x0 x5).f2) ((rd_T24 x0 x5).f3) ((rd_T24 x1 x5).f0) ((rd_T24 x1 x5).f1) ((rd_T24 x1 x5).f2) ((rd_T24 x1 x5).f3)) else (chicaneref14_Same.j1 k x0 x1 x5 true ((rd_T24 x0 x5).f0) ((rd_T24 x0 x5).f1) ((rd_T24 x0 x5).f2) ((rd_T24 x0 x5).f3) ((rd_T24 x1 x5).f0) ((rd_T24 x1 x5).f1) ((rd_T24 x1 x5).f2) ((rd_T24 x1 x5).f3)))) else (chicaneref14_Same.j1 k x0 x1 x5 true ((rd_T24 x0 x5).f0) ((rd_T24 x0 x5).f1) ((rd_T24 x0 x5).f2) ((rd_T24 x0 x5).f3) ((rd_T24 x1 x5).f0) ((rd_T24 x1 x5).f1) ((rd_T24 x1 x5).f2) ((rd_T24 x1 x5).f3))) else (none)) else (none)) else (some true)
def chicaneref14_Same.j1 : Nat → List (S24) → List (S24) → Int → Bool → ByteArray → Bool → Int → List (S39) → ByteArray → Bool → Int → List (S39) → Option (Bool)
  | 0, _, _, _, _, _, _, _, _, _, _, _, _ => none
  | k + 1, x0, x1, x5, x55, x212000, x212001, x212002, x212003, x214000, x214001, x214002, x214003 => if x55 = true then (some false) else (chicaneref14_Same.l1 k x0 x1 x5 0 x212000 x212001 x212002 x212003 x214000 x214001 x214002 x214003)
def chicaneref14_Same.l1 : Nat → List (S24) → List (S24) → Int → Int → ByteArray → Bool → Int → List (S39) → ByteArray → Bool → Int → List (S39) → Option (Bool)
  | 0, _, _, _, _, _, _, _, _, _, _, _, _ => none
  | k + 1, x0, x1, x5, x8, x212000, x212001, x212002, x212003, x214000, x214001, x214002, x214003 => if x8 < (x212003.length : Int) then (if 0 ≤ x8 then (if x8 < (x214003.length : Int) then (if (!((((rd_T39 x212003 x8).f0).toList) == (((rd_T39 x214003 x8).f0).toList)) || (!(((rd_T39 x212003 x8).f1) == ((rd_T39 x214003 x8).f1)) || (!(((rd_T39 x212003 x8).f2) == ((rd_T39 x214003 x8).f2)) || (!(((rd_T39 x212003 x8).f3) == ((rd_T39 x214003 x8).f3)) || (!(((rd_T39 x212003 x8).f4) == ((rd_T39 x214003 x8).f4)) || (!(((rd_T39 x212003 x8).f5) == ((rd_T39 x214003 x8).f5)))))))) = true then (some false) else (chicaneref14_Same.l1 k x0 x1 x5 (wrap64 (x8 + 1)) x212000 x212001 x212002 x212003 x214000 x214001 x214002 x214003)) else (none)) else (none)) else (chicaneref14_Same.l0 k x0 x1 (wrap64 (x5 + 1)))
end
def chicaneref14_Same.f (k : Nat) (l0 : List (S24)) (l1 : List (S24)) : Option (Bool) := if (l0.length : Int) = (l1.length : Int) then (chicaneref14_Same.l0 k l0 l1 0) else (some false)
theorem chicaneref14_Same.mono_l : ∀ k, (∀ y0 y1 y2, LeO (chicaneref14_Same.l0 k y0 y1 y2) (chicaneref14_Same.l0 (k + 1) y0 y1 y2)) ∧ (∀ y0 y1 y2 y3 y4 y5 y6 y7 y8 y9 y10 y11, LeO (chicaneref14_Same.j1 k y0 y1 y2 y3 y4 y5 y6 y7 y8 y9 y10 y11) (chicaneref14_Same.j1 (k + 1) y0 y1 y2 y3 y4 y5 y6 y7 y8 y9 y10 y11)) ∧ (∀ y0 y1 y2 y3 y4 y5 y6 y7 y8 y9 y10 y11, LeO (chicaneref14_Same.l1 k y0 y1 y2 y3 y4 y5 y6 y7 y8 y9 y10 y11) (chicaneref14_Same.l1 (k + 1) y0 y1 y2 y3 y4 y5 y6 y7 y8 y9 y10 y11))
  | 0 => ⟨fun _ _ _ r h => by simp [chicaneref14_Same.l0] at h, fun _ _ _ _ _ _ _ _ _ _ _ _ r h => by simp [chicaneref14_Same.j1] at h, fun _ _ _ _ _ _ _ _ _ _ _ _ r h => by simp [chicaneref14_Same.l1] at h⟩
  | k + 1 => by
    obtain ⟨ih0, ih1, ih2⟩ := chicaneref14_Same.mono_l k
    refine ⟨?_, ?_, ?_⟩
    · intro y0 y1 y2
      unfold chicaneref14_Same.l0
      repeat' first
      | (with_reducible exact ih0 _ _ _)
      | (with_reducible exact ih1 _ _ _ _ _ _ _ _ _ _ _ _)
      | (with_reducible exact ih2 _ _ _ _ _ _ _ _ _ _ _ _)
      | (with_reducible exact LeO.refl _)
      | (with_reducible exact LeO.none _)
      | (with_reducible refine LeO.ite ?_ ?_)
      | (with_reducible refine LeO.bind ?_ (fun _ => ?_))
      | exact ih0 _ _ _
      | exact ih1 _ _ _ _ _ _ _ _ _ _ _ _
      | exact ih2 _ _ _ _ _ _ _ _ _ _ _ _
      | exact LeO.none _
      | refine LeO.ite ?_ ?_
      | refine LeO.bind ?_ (fun _ => ?_)
    · intro y0 y1 y2 y3 y4 y5 y6 y7 y8 y9 y10 y11
      unfold chicaneref14_Same.j1
      repeat' first
      | (with_reducible exact ih0 _ _ _)
      | (with_reducible exact ih1 _ _ _ _ _ _ _ _ _ _ _ _)
      | (with_reducible exact ih2 _ _ _ _ _ _ _ _ _ _ _ _)
      | (with_reducible exact LeO.refl _)
      | (with_reducible exact LeO.none _)
      | (with_reducible refine LeO.ite ?_ ?_)
      | (with_reducible refine LeO.bind ?_ (fun _ => ?_))
      | exact ih0 _ _ _
      | exact ih1 _ _ _ _ _ _ _ _ _ _ _ _
      | exact ih2 _ _ _ _ _ _ _ _ _ _ _ _
      | exact LeO.none _
      | refine LeO.ite ?_ ?_
      | refine LeO.bind ?_ (fun _ => ?_)
    · intro y0 y1 y2 y3 y4 y5 y6 y7 y8 y9 y10 y11
      unfold chicaneref14_Same.l1
      repeat' first
      | (with_reducible exact ih0 _ _ _)
      | (with_reducible exact ih1 _ _ _ _ _ _ _ _ _ _ _ _)
      | (with_reducible exact ih2 _ _ _ _ _ _ _ _ _ _ _ _)
      | (with_reducible exact LeO.refl _)
      | (with_reducible exact LeO.none _)
      | (with_reducible refine LeO.ite ?_ ?_)
      | (with_reducible refine LeO.bind ?_ (fun _ => ?_))
      | exact ih0 _ _ _
      | exact ih1 _ _ _ _ _ _ _ _ _ _ _ _
      | exact ih2 _ _ _ _ _ _ _ _ _ _ _ _
      | exact LeO.none _
      | refine LeO.ite ?_ ?_
      | refine LeO.bind ?_ (fun _ => ?_)
theorem chicaneref14_Same.mono : ∀ a0 a1 k, LeO (chicaneref14_Same.f k a0 a1) (chicaneref14_Same.f (k + 1) a0 a1) := by
  intro a0 a1 k
  obtain ⟨ih0, ih1, ih2⟩ := chicaneref14_Same.mono_l k
  unfold chicaneref14_Same.f
  repeat' first
      | (with_reducible exact ih0 _ _ _)
      | (with_reducible exact ih1 _ _ _ _ _ _ _ _ _ _ _ _)
      | (with_reducible exact ih2 _ _ _ _ _ _ _ _ _ _ _ _)
      | (with_reducible exact LeO.refl _)
      | (with_reducible exact LeO.none _)
      | (with_reducible refine LeO.ite ?_ ?_)
      | (with_reducible refine LeO.bind ?_ (fun _ => ?_))
      | exact ih0 _ _ _
      | exact ih1 _ _ _ _ _ _ _ _ _ _ _ _
      | exact ih2 _ _ _ _ _ _ _ _ _ _ _ _
      | exact LeO.none _
      | refine LeO.ite ?_ ?_
      | refine LeO.bind ?_ (fun _ => ?_)
end Go.Proofs.Ytlglbpjccpdloaa.PNamA
set_option linter.unusedVariables false
set_option linter.unusedSimpArgs false
namespace Go.Proofs.Ytlglbpjccpdloaa.Ext
open Go.RowKit Go.Proofs.Ytlglbpjccpdloaa.PNamA Go.Proofs.YtlglbpjccpdloaaW.PrintWords Go.Proofs.YtlglbpjccpdloaaW.PrintLast
def NHold (p : Prop) : Prop := p
theorem nhold {p : Prop} (h : NHold p) : p := h
theorem NHold.go {p : Prop} (h : p) : NHold p := h
theorem info_tox : (Try.prog.info? 39).map (fun i => (i.zero, i.size, i.bytes)) = some (some (.agg #[.string ⟨#[]⟩, .int .i64 0, .bool false, .int .i64 0, .int .i64 0, .int .i64 0]), 6, 56) := by kernel_rfl
theorem info_prox : (Try.prog.info? 24).map (fun i => (i.zero, i.size, i.bytes)) = some (some (.agg #[.string ⟨#[]⟩, .bool false, .int .i64 0, .slice none 0 0]), 4, 56) := by kernel_rfl
theorem tox_made {w W : World} {base : Nat} {ok : Nat → Prop} {x : S39} {cs : List Value} (h : k39.K w x cs) : k39.M W base ok x cs := by
  rw [k39_open h]
  exact k39_mkM _ _ _ _
set_option maxRecDepth 100000 in
theorem clone_tox (A : Option Addr) (c : Nat) (l : List S39) (w : World) (hr : Kd.C k39 w A l.length l) (hl : l.length ≤ 1000000) :
    Calls Try.prog 72 #[.slice A l.length c] w fun e w' => ∃ v, e = .returned v ∧ Kd.R k39 39 w' w.heap.size (fun _ => True) v l ∧ Below w.heap.size w w' := by
  have HL := Lib.hid hl
  have HR := Lib.hid hr
  obtain ⟨n, hn⟩ : ∃ n, l.length = n := ⟨_, rfl⟩
  have HN := Lib.hid hn
  rw [hn]
  clear hn hl hr
  cases A with
  | none =>
    have h0 : l = [] := by
      cases l with
      | nil => rfl
      | cons x r => obtain ⟨_, h, _⟩ := HR.out.2.2 (by simp); cases h
    have H0 := Lib.hid h0
    clear h0
    have hnil := fun W => @Lib.run_eql_slice_nil Try.prog W 22 39 none n c 0 0 Try.underlying22
    go_enter Try.func72, Try.ntmps72
    go_wp2_with fail
    go_ret
    exact ⟨_, rfl, by rw [H0.out]; exact Kd.R_nil _ _ _ _ _, Below.refl _ _⟩
  | some ad =>
    have hnil := fun W => @Lib.run_eql_slice_nil Try.prog W 22 39 (some ad) n c 0 0 Try.underlying22
    go_enter Try.func72, Try.ntmps72
    go_wp2_with (first | (at_builtin; refine nhold ?_) | fail)
    refine NHold.go ?_
    have hl := HL.out
    have hb0 : Below w.heap.size w (w.alloc (.cells #[] 39)) := (Below.refl _ w).alloc (Nat.le_refl _) _
    have hn := HN.out
    refine Kd.R_append_rows (w0 := w) k39 w.heap.size rfl _ _ 22 39 _ 56 rfl Try.underlying22 info_tox rfl (by decide) (by decide)
      (.slice (some ⟨w.heap.size, 0, none⟩) 0 0) [] l (some ad) n c (fun _ => True) (fun _ => False) rfl rfl
      ⟨fun _ _ => trivial, OwnRow.lit w w.heap.size (inner := []) (Reps.none _ _) (Nat.le_refl _) (by simp)⟩ (Rr := k39.K w) (by
        have := Kd.C_below HR.out hb0
        rw [← hn]
        exact ReadsRow.imp_ HR.out hb0 (fun _ _ h => h)) (fun x cs h => tox_made h) (fun _ h => h.elim) (fun _ _ => trivial) hb0 hb0.size (by simp only [List.length_nil]; omega) ?_
    intro v1 w1 hR hB hg hat
    have HO := Lib.hid hR
    have HB := Lib.hid hB
    clear hR hB hg hat hb0 hl hn
    go_wp2_with fail
    go_ret
    exact ⟨_, rfl, by have := HO.out; rwa [List.nil_append] at this, HB.out⟩
theorem raw_of_C {α : Type} {d : Kd α} {w : World} {A : Option Addr} {n : Nat} {xs : List α} (h : Kd.C d w A n xs) :
    ∃ rows : List (List Value), rows.length = n ∧ Kd.C (Kd.raw d.sz) w A n rows ∧ ∀ (j : Nat) x row, xs[j]? = some x → rows[j]? = some row → d.K w x row := by
  obtain ⟨hl, hm, hc⟩ := h
  rcases Nat.eq_zero_or_pos n with h0 | h0
  · subst h0
    obtain rfl : xs = [] := List.eq_nil_of_length_eq_zero hl
    exact ⟨[], rfl, ⟨rfl, by omega, fun h => by omega⟩, fun j x row h => by simp at h⟩
  · obtain ⟨ad, hA, hc⟩ := hc h0
    have hex : ∀ j, ∃ c : List Value, ∀ p, xs[j]? = some p → c.length = d.sz ∧ d.K w p c ∧ ∀ i u, c[i]? = some u → w.cell? (ad.add (j * d.sz + i)) = some u := by
      intro j
      cases hx : xs[j]? with
      | none => exact ⟨[], fun p hp => by cases hp⟩
      | some p =>
        obtain ⟨c, h1, h2, h3⟩ := hc j p hx
        exact ⟨c, fun q hq => by cases hq; exact ⟨h1, h2, h3⟩⟩
    have hat : ∀ (j : Nat) row, ((List.range n).map fun j => Classical.choose (hex j))[j]? = some row → j < n ∧ row = Classical.choose (hex j) := by
      intro j row hj
      rw [List.getElem?_map] at hj
      obtain ⟨j', hj', rfl⟩ := Option.map_eq_some_iff.1 hj
      obtain ⟨hl', he⟩ := List.getElem?_eq_some_iff.1 hj'
      rw [List.getElem_range] at he
      subst he
      exact ⟨by simpa using hl', rfl⟩
    refine ⟨(List.range n).map fun j => Classical.choose (hex j), by simp, ⟨by simp, hm, fun _ => ⟨ad, hA, fun j row hj => ?_⟩⟩, fun j x row hx hj => ?_⟩
    · obtain ⟨hjn, rfl⟩ := hat j row hj
      have hjl : j < xs.length := by omega
      obtain ⟨h1, h2, h3⟩ := Classical.choose_spec (hex j) xs[j] (List.getElem?_eq_getElem hjl)
      exact ⟨_, h1, ⟨rfl, h1, d.K_one h2⟩, h3⟩
    · obtain ⟨hjn, rfl⟩ := hat j row hj
      exact (Classical.choose_spec (hex j) x hx).2.1
theorem S_of_raw {α : Type} {d : Kd α} {e base : Nat} {w : World} {ok ok' : Nat → Prop} {v : Value} {xs : List α} {rows : List (List Value)} (h : (Kd.raw d.sz).R e w base ok' v rows) (hl : rows.length = xs.length) (okj : Nat → Nat → Prop)
    (hap : ∀ i j k, okj i k → okj j k → i = j) (hok : ∀ j k, okj j k → ok k ∧ some k ≠ v.ownBlock) (hok0 : ∀ k, v.ownBlock = some k → ok k) (hM : ∀ (j : Nat) x row, xs[j]? = some x → rows[j]? = some row → d.M w base (okj j) x row) : Kd.S d e w base ok v xs := by
  obtain ⟨_, inner, ho, hr⟩ := h
  have hil : inner.length = xs.length * d.sz := by rw [← hl]; exact hr.1
  obtain ⟨f, hf⟩ := Kd.reps_tag (d := d) (w := w) (base := base) (ok := fun k => ok k ∧ some k ≠ v.ownBlock) okj hap hok hil (fun j x hx => by
    have hj : j < rows.length := by rw [hl]; exact (List.getElem?_eq_some_iff.1 hx).1
    have h1 := (hr.2 j _ (List.getElem?_eq_getElem hj)).1
    have h2 := hM j x rows[j] hx (List.getElem?_eq_getElem hj)
    rw [← h1] at h2
    exact h2)
  exact ⟨f, hok0, inner, by rw [List.length_zipIdx, ← hl]; exact ho, hf⟩
set_option maxRecDepth 100000 in
theorem clone_prox (A : Option Addr) (c : Nat) (l : List S24) (w : World) (hr : Kd.C k24 w A l.length l) (hl : l.length ≤ 1000000) :
    Calls Try.prog 71 #[.slice A l.length c] w fun e w' => ∃ v rows, e = .returned v ∧ (Kd.raw 4).R 24 w' w.heap.size (fun _ => True) v rows ∧ rows.length = l.length ∧
      (∀ (j : Nat) x row, l[j]? = some x → rows[j]? = some row → k24.K w x row) ∧ Below w.heap.size w w' := by
  obtain ⟨rows, hrl, hrc, hrk⟩ := raw_of_C hr
  have HL := Lib.hid hl
  have HR := Lib.hid hrc
  have HRL := Lib.hid hrl
  have HK := Lib.hid hrk
  clear hl hr hrc hrk hrl
  obtain ⟨n, hn⟩ : ∃ n, l.length = n := ⟨_, rfl⟩
  rw [hn] at HR HRL HL
  rw [hn]
  clear hn
  cases A with
  | none =>
    have h0 : rows = [] := by
      cases rows with
      | nil => rfl
      | cons x r => obtain ⟨_, h, _⟩ := HR.out.2.2 (by have := HRL.out; simp at this; omega); cases h
    have H0 := Lib.hid h0
    clear h0
    have hnil := fun W => @Lib.run_eql_slice_nil Try.prog W 26 24 none n c 0 0 Try.underlying26
    go_enter Try.func71, Try.ntmps71
    go_wp2_with fail
    go_ret
    exact ⟨_, rows, rfl, by rw [H0.out]; exact Kd.R_nil _ _ _ _ _, HRL.out, HK.out, Below.refl _ _⟩
  | some ad =>
    have hnil := fun W => @Lib.run_eql_slice_nil Try.prog W 26 24 (some ad) n c 0 0 Try.underlying26
    go_enter Try.func71, Try.ntmps71
    go_wp2_with (first | (at_builtin; refine nhold ?_) | fail)
    refine NHold.go ?_
    have hl := HL.out
    have hb0 : Below w.heap.size w (w.alloc (.cells #[] 24)) := (Below.refl _ w).alloc (Nat.le_refl _) _
    refine Kd.R_append_rows (w0 := w) (Kd.raw 4) w.heap.size rfl _ _ 26 24 _ 56 rfl Try.underlying26 info_prox rfl (by decide) (by decide)
      (.slice (some ⟨w.heap.size, 0, none⟩) 0 0) [] rows (some ad) n c (fun _ => True) (fun _ => False) rfl rfl
      ⟨fun _ _ => trivial, OwnRow.lit w w.heap.size (inner := []) (Reps.none _ _) (Nat.le_refl _) (by simp)⟩ (Rr := (Kd.raw 4).K w) (ReadsRow.imp_ HR.out hb0 (fun _ _ h => h)) (fun x cs h => h) (fun _ h => h.elim) (fun _ _ => trivial) hb0 hb0.size (by simp only [List.length_nil]; omega) ?_
    intro v1 w1 hR hB hg hat
    have HO := Lib.hid hR
    have HB := Lib.hid hB
    clear hR hB hg hat hb0 hl
    go_wp2_with fail
    go_ret
    exact ⟨_, rows, rfl, by have := HO.out; rwa [List.nil_append] at this, HRL.out, HK.out, HB.out⟩
def smallP (l : List S24) : Bool := decide (l.length ≤ 1000000) && l.all fun x => decide (x.f3.length ≤ 1000000)
def names_own.f (l : List S24) : Option (List S24) := if smallP l then some l else none
def OwnI (w : World) (v : Value) (l : List S24) (k : Nat) (wr : World) : Prop :=
  ∃ (rows : List (List Value)) (okj : Nat → Nat → Prop), (Kd.raw 4).R 24 wr w.heap.size (fun _ => True) v rows ∧ rows.length = l.length ∧
    (∀ (j : Nat) x row, k ≤ j → l[j]? = some x → rows[j]? = some row → k24.K w x row) ∧ (∀ (j : Nat) x row, j < k → l[j]? = some x → rows[j]? = some row → k24.M wr w.heap.size (okj j) x row) ∧
    (∀ i j b, okj i b → okj j b → i = j) ∧ (∀ j b, okj j b → b < wr.heap.size ∧ some b ≠ v.ownBlock) ∧ (∀ b, v.ownBlock = some b → b < wr.heap.size) ∧ Below w.heap.size w wr
theorem own_step {w wr W w2 : World} {g n cap k : Nat} {l : List S24} {x : S24} {v1 : Value} (hI : OwnI w (.slice (some ⟨g, 0, none⟩) n cap) l k wr) (hx : l[k]? = some x) (hb1 : Below wr.heap.size wr W)
    (hR : Kd.R k39 39 w2 W.heap.size (fun _ => True) v1 x.f3) (hb2 : Below W.heap.size W w2) : OwnI w (.slice (some ⟨g, 0, none⟩) n cap) l (k + 1) (w2.setCell ⟨g, k * 4 + 3, none⟩ v1) := by
  obtain ⟨rows, okj, hraw, hlen, hge, hlt, hap, hbd, hgl, hB⟩ := hI
  have hgo : (Value.slice (some ⟨g, 0, none⟩) n cap).ownBlock = some g := by simp [Value.ownBlock]
  have hgw := hgl g hgo
  have hb12 : Below wr.heap.size wr w2 := hb1.trans (hb2.mono hb1.size)
  have hkl : k < l.length := (List.getElem?_eq_some_iff.1 hx).1
  have hkr : k < rows.length := by omega
  have hrow : rows[k]? = some rows[k] := List.getElem?_eq_getElem hkr
  have hraw2 := Kd.R_below hraw hb12
  have hn := (Kd.R_reads' hraw2).1
  obtain ⟨c, hcl, hcM, hcc, _⟩ := Kd.R_elem hraw2 [] (k : Int) (by omega) (by omega)
  have hck : c = rows[k] := by
    have := hcM.1
    rwa [Int.toNat_natCast, List.getD_eq_getElem?_getD, hrow] at this
  obtain ⟨A3, c3, hopen, _, _⟩ := k24_open (hge k x rows[k] (Nat.le_refl _) hx hrow)
  have hv1 : v1.oneCell' = true := (Kd.R_val hR).2
  have hnew : c.take 3 ++ [v1] ++ c.drop (3 + [v1].length) = [.string x.f0, .bool x.f1, .int .i64 x.f2, v1] := by rw [hck, hopen]; rfl
  obtain ⟨hseg, hgrow⟩ := Kd.R_seg (okp := fun _ => False) hraw2 (k : Int) (by omega) (by omega) (c := c) (seg := [v1]) (j := 3) (x' := [.string x.f0, .bool x.f1, .int .i64 x.f2, v1]) hcl hcc (Nat.le_refl 4)
    (by rw [hnew]; exact ⟨rfl, rfl, fun u hu => by simp at hu; rcases hu with rfl | rfl | rfl | rfl <;> first | rfl | exact hv1⟩) (fun _ h => h.elim)
  have hset : w2.setCells g ((k : Int).toNat * (Kd.raw 4).sz + 3) [v1] = w2.setCell ⟨g, k * 4 + 3, none⟩ v1 := rfl
  rw [hset] at hseg hgrow
  rw [Int.toNat_natCast] at hseg
  have hvb : ∀ b, v1.ownBlock = some b → W.heap.size ≤ b ∧ b < w2.heap.size := fun b hb => ⟨Kd.R_base hR b hb, Kd.R_lt hR b hb⟩
  have hsz : wr.heap.size ≤ w2.heap.size := hb12.size
  have hszW : wr.heap.size ≤ W.heap.size := hb1.size
  have hs3 : (w2.setCell ⟨g, k * 4 + 3, none⟩ v1).heap.size = w2.heap.size := by simp
  have hBw : w.heap.size ≤ g := Kd.R_base hraw g hgo
  refine ⟨rows.set k [.string x.f0, .bool x.f1, .int .i64 x.f2, v1], fun j b => if j = k then v1.ownBlock = some b else okj j b, hseg, by rw [List.length_set]; exact hlen, ?_, ?_, ?_, ?_, ?_, ?_⟩
  · intro j y row hj hy hrj
    rw [List.getElem?_set_ne (by omega)] at hrj
    exact hge j y row (by omega) hy hrj
  · intro j y row hj hy hrj
    by_cases hjk : j = k
    · subst hjk
      rw [List.getElem?_set_self hkr] at hrj
      injection hrj with hrj
      rw [hx] at hy
      injection hy with hy
      subst hrj hy
      refine k24_mkM _ _ _ _ ?_
      have h1 := Kd.R_lower (Kd.R_tight rfl hR) (Nat.le_trans (Nat.le_trans hB.size hszW) (Nat.le_refl _))
      refine Kd.R_mono (Kd.R_step h1 (fun b hb _ => Below.heap_setCell _ _ _ _ (fun he => ?_))) (fun b hb => ?_)
      · have := (hvb b hb.symm).1
        simp only at he
        omega
      · simp only [if_true]
        exact hb.symm
    · rw [List.getElem?_set_ne (fun h => hjk h.symm)] at hrj
      have h1 := hlt j y row (by omega) hy hrj
      refine k24.M_mono (fun b hb => ?_) (Kd.M_step (w1 := w2.setCell ⟨g, k * 4 + 3, none⟩ v1) h1 (fun b hb hbl => ?_))
      · show if j = k then _ else _
        rw [if_neg hjk]; exact hb
      · rw [Below.heap_setCell _ _ _ _ (fun he => (hbd j b hb).2 (by rw [hgo]; simp only at he; rw [he]))]
        exact hb12.block b hbl
  · intro i j b hi hj
    by_cases h1 : i = k <;> by_cases h2 : j = k
    · omega
    · rw [if_pos h1] at hi
      rw [if_neg h2] at hj
      have := (hvb b hi).1
      have := (hbd j b hj).1
      omega
    · rw [if_neg h1] at hi
      rw [if_pos h2] at hj
      have := (hvb b hj).1
      have := (hbd i b hi).1
      omega
    · rw [if_neg h1] at hi
      rw [if_neg h2] at hj
      exact hap i j b hi hj
  · intro j b hb
    rw [hs3]
    by_cases hjk : j = k
    · rw [if_pos hjk] at hb
      have := hvb b hb
      refine ⟨this.2, fun he => ?_⟩
      rw [hgo] at he
      injection he with he
      omega
    · rw [if_neg hjk] at hb
      have := hbd j b hb
      exact ⟨by omega, this.2⟩
  · intro b hb
    rw [hs3]
    have := hgl b hb
    omega
  · exact (hB.trans (hb12.mono hB.size)).setCell hBw _
set_option maxRecDepth 100000 in
set_option maxHeartbeats 1000000 in
theorem names_own.calls (A0 : Option Addr) (c0 : Nat) (l0 : List S24) (r : List S24) (w : World) (hr0 : Kd.C k24 w A0 l0.length l0) (hc0 : l0.length ≤ c0) (h : names_own.f l0 = some r) :
    Calls Try.prog 40 #[.slice A0 l0.length c0] w fun e w' => ∃ v0_ : Value, e = .returned v0_ ∧ Kd.S k24 24 w' w.heap.size (fun _ => True) v0_ r ∧ Below w.heap.size w w' := by
  unfold names_own.f at h
  split at h
  · rename_i hsm
    injection h with h
    subst h
    simp only [smallP, Bool.and_eq_true, decide_eq_true_eq, List.all_eq_true] at hsm
    obtain ⟨hl, hall⟩ := hsm
    have HC := Lib.hid (clone_prox A0 c0 l0 w hr0 hl)
    have HALL := Lib.hid hall
    have hl9 : l0.length ≤ 9223372036854775807 := by omega
    clear hr0 hc0 hl hall
    obtain ⟨n, hn⟩ : ∃ n, l0.length = n := ⟨_, rfl⟩
    have HN := Lib.hid hn
    rw [hn] at HC hl9
    rw [hn]
    clear hn
    go_enter Try.func40, Try.ntmps40
    go_wp2_with (go_at_call 71; refine HC.out.mono ?_; rintro e w1 ⟨v, rows, rfl, hR, hrl, hK, hB⟩; obtain ⟨A, c, hv⟩ := Kd.R_slice hR; rw [hrl] at hv; subst hv; have HR := Lib.hid hR; have HRL := Lib.hid hrl; have HK := Lib.hid hK; have HB := Lib.hid hB; clear hR hrl hK hB)
    have hI0 : OwnI w (.slice A n c) l0 0 w1 := ⟨rows, fun _ _ => False, HR.out, by rw [HRL.out, HN.out], fun j x row _ hx hj => HK.out j x row hx hj, fun j x row hj => by omega, fun i j b h => h.elim, fun j b h => h.elim, Kd.R_lt HR.out, HB.out⟩
    have HI0 := Lib.hid hI0
    clear hI0
    go_loopw [10] (fun i wr => ∃ k : Nat, k ≤ n ∧ i = .int .i64 k ∧ Hid (OwnI w (.slice A n c) l0 k wr)) (fun i _ => n - (intOf i).toNat)
    case atStart => exact ⟨0, Nat.zero_le _, rfl, HI0⟩
    case round =>
      obtain ⟨k, hk, rfl, HI⟩ := hrel
      clear HI0 HR HRL HK HB HC
      by_cases hlt : k < n
      · obtain ⟨rows', okj, hraw, hlen, hge, hltM, hap, hbd, hgl, hB⟩ := HI.out
        have hll : k < l0.length := by rw [HN.out]; exact hlt
        have hkr : k < rows'.length := by omega
        obtain ⟨g, cap, hv, hBg, hgw, _⟩ := Kd.R_form hraw (by omega)
        have hA : A = some ⟨g, 0, none⟩ := by injection hv
        subst hA
        have hx : l0[k]? = some l0[k] := List.getElem?_eq_getElem hll
        have hrow : rows'[k]? = some rows'[k] := List.getElem?_eq_getElem hkr
        obtain ⟨cc, hcl, hcM, hcc, hcf⟩ := Kd.R_elem hraw [] (k : Int) (by omega) (by omega)
        have hck : cc = rows'[k] := by
          have := hcM.1
          rwa [Int.toNat_natCast, List.getD_eq_getElem?_getD, hrow] at this
        obtain ⟨A3, c3, hopen, _, hC3⟩ := k24_open (hge k _ _ (Nat.le_refl _) hx hrow)
        rw [hck, hopen] at hcc
        have x0 : wr.cell? ⟨g, k * 4, none⟩ = some (.string l0[k].f0) := hcc 0 _ rfl
        have x1 : wr.cell? ⟨g, k * 4 + 1, none⟩ = some (.bool l0[k].f1) := hcc 1 _ rfl
        have x2 : wr.cell? ⟨g, k * 4 + 2, none⟩ = some (.int .i64 l0[k].f2) := hcc 2 _ rfl
        have x3 : wr.cell? ⟨g, k * 4 + 3, none⟩ = some (.slice A3 l0[k].f3.length c3) := hcc 3 _ rfl
        have y3 : wr.frozen? ⟨g, k * 4 + 3, none⟩ = false := hcf 3
        have hC3' := Kd.C_below hC3 hB
        have hlen3 := HALL.out l0[k] (List.getElem_mem hll)
        have HX := Lib.hid hx
        clear hcc hcf hcM hcl hck hopen hrow hC3 hraw hge hltM hap hbd hgl hv hlen hkr hx
        generalize l0[k] = x at *
        have hi0 : (0 : Int) ≤ (k : Int) := Int.natCast_nonneg _
        have hi1 : (k : Int) < (n : Int) := by omega
        have hbx : Below wr.heap.size wr (wr.alloc (.cells #[.string x.f0, .bool x.f1, .int .i64 x.f2, .slice A3 x.f3.length c3] 24)) := (Below.refl _ wr).alloc (Nat.le_refl _) _
        have HCT := Lib.hid (clone_tox A3 c3 x.f3 _ (Kd.C_below hC3' hbx) hlen3)
        have HBX := Lib.hid hbx
        have HGW := Lib.hid hgw
        have z3 := nm_cell_at hbx x3
        have w3 : (wr.alloc (.cells #[.string x.f0, .bool x.f1, .int .i64 x.f2, .slice A3 x.f3.length c3] 24)).frozen? ⟨g, k * 4 + 3, none⟩ = false := (hbx.frozen (p := ⟨g, k * 4 + 3, none⟩) hgw).trans y3
        have Z3 := Lib.hid z3
        have W3 := Lib.hid w3
        clear hbx hC3' hlen3 hgw z3 w3 hB hBg
        go_wp2_with (go_at_call 72; refine HCT.out.mono ?_; rintro e w2 ⟨v1, rfl, hR1, hb2⟩; obtain ⟨A1, c1, rfl⟩ := Kd.R_slice hR1; have HR1 := Lib.hid hR1; have HB2 := Lib.hid hb2; have q1 := nm_cell_at hb2 Z3.out; have q2 := (hb2.frozen (p := ⟨g, k * 4 + 3, none⟩) (by have := HGW.out; have := HBX.out.size; simp only; omega)).trans W3.out; clear hR1 hb2)
        go_roundw
        case measure => simp [intOf]; omega
        case rel => exact ⟨k + 1, by omega, by go_num, Lib.hid (own_step HI.out HX.out HBX.out HR1.out HB2.out)⟩
      · have hk' : k = n := by omega
        subst hk'
        go_wp2_with fail
        go_ret
        obtain ⟨rows', okj, hraw, hlen, hge, hltM, hap, hbd, hgl, hB⟩ := HI.out
        refine ⟨_, rfl, S_of_raw (d := k24) hraw hlen (fun j b => j < l0.length ∧ okj j b) (fun i j b h1 h2 => hap i j b h1.2 h2.2) (fun j b h => ⟨trivial, (hbd j b h.2).2⟩) (fun _ _ => trivial) (fun j x row hx hr => ?_), hB⟩
        have hj : j < l0.length := (List.getElem?_eq_some_iff.1 hx).1
        exact k24.M_mono (fun b hb => ⟨hj, hb⟩) (hltM j x row (by rw [← HN.out]; exact hj) hx hr)
  · cases h
end Go.Proofs.Ytlglbpjccpdloaa.Ext
set_option linter.unusedVariables false
set_option linter.unusedSimpArgs false
namespace Go.Proofs.Ytlglbpjccpdloaa.Ext
open Go.RowKit Go.Proofs.Ytlglbpjccpdloaa.PNamA Go.Proofs.YtlglbpjccpdloaaW.PrintWords Go.Proofs.YtlglbpjccpdloaaW.PrintLast
abbrev SP (W : World) (B b n cap : Nat) (xs : List S24) : Prop := Kd.S k24 24 W B (fun _ => True) (.slice (some ⟨b, 0, none⟩) n cap) xs
abbrev HP (W : World) (B b n cap : Nat) (xs : List S24) (i : Nat) (oki : Nat → Prop) (c : List Value) : Prop := Kd.H k24 24 W B (fun _ => True) (.slice (some ⟨b, 0, none⟩) n cap) xs (i : Int) oki c
abbrev RT (W : World) (B : Nat) (ok : Nat → Prop) (v : Value) (l : List S39) : Prop := Kd.R k39 39 W B ok v l
theorem elemP {W : World} {B b n cap i : Nat} {xs : List S24} {x : S24} (h : SP W B b n cap xs) (hx : xs[i]? = some x) :
    ∃ (oki : Nat → Prop) (A : Option Addr) (c : Nat), RT W B oki (.slice A x.f3.length c) x.f3 ∧ W.cell? ⟨b, i * 4, none⟩ = some (.string x.f0) ∧ W.cell? ⟨b, i * 4 + 1, none⟩ = some (.bool x.f1) ∧ W.cell? ⟨b, i * 4 + 2, none⟩ = some (.int .i64 x.f2) ∧ W.cell? ⟨b, i * 4 + 3, none⟩ = some (.slice A x.f3.length c) ∧
      (∀ j, W.frozen? ⟨b, i * 4 + j, none⟩ = false) ∧ (∀ k, oki k → k ≠ b) ∧ HP W B b n cap xs i oki [.string x.f0, .bool x.f1, .int .i64 x.f2, .slice A x.f3.length c] := by
  have hn := (Kd.S_reads' h).1
  have hi : i < xs.length := (List.getElem?_eq_some_iff.1 hx).1
  obtain ⟨oki, c, hcl, hM, hcc, hfr, hoki, hH⟩ := Kd.S_elem h z24 (i : Int) (by omega) (by omega)
  rw [Int.toNat_natCast, List.getD_eq_getElem?_getD, hx] at hM
  obtain ⟨v3, rfl, hR⟩ := k24_openM hM
  obtain ⟨A, c3, hv⟩ := Kd.R_slice hR
  simp only [Option.getD_some] at hv hR hM hH hcc
  subst hv
  exact ⟨oki, A, c3, hR, hcc 0 _ rfl, hcc 1 _ rfl, hcc 2 _ rfl, hcc 3 _ rfl, hfr, fun k hk => (hoki k hk).2, hH⟩
theorem hole_set {W : World} {B b n cap i : Nat} {xs : List S24} {oki : Nat → Prop} {c0 c1 c2 v3 v' : Value} {y : S24} (hH : HP W B b n cap xs i oki [c0, c1, c2, v3]) (hi : i < n) (hc : [c0, c1, c2, v'] = [.string y.f0, .bool y.f1, .int .i64 y.f2, v']) (hR : RT W B oki v' y.f3) :
    SP (W.setCell ⟨b, i * 4 + 3, none⟩ v') B b n cap (xs.set i y) ∧ W.grownBy (W.setCell ⟨b, i * 4 + 3, none⟩ v') (some b) := by
  have h := Kd.S_seg (okg := fun _ => False) (okp := oki) (ok := fun _ => True) (d := k24) (e := 24) (Kd.H_mono hH (fun k _ => ⟨trivial, fun h => h⟩)) (by omega) (by omega) (seg := [v']) (j := 3) (Nat.le_refl 4) (x' := y) (by
    show k24.M W B oki y [c0, c1, c2, v']
    rw [hc]
    exact k24_mkM _ _ _ _ hR) (fun k hk => .inl hk) (fun k hk => hk.elim)
  rw [Int.toNat_natCast] at h
  exact h
theorem R_beyond {α : Type} {d : Kd α} {e base : Nat} {W : World} {ok : Nat → Prop} {g n c o : Nat} {xs : List α} {zs : List Value} (h : d.R e W base ok (.slice (some ⟨g, 0, none⟩) n c) xs) (ho : n * d.sz ≤ o) (hz : o + zs.length ≤ c * d.sz) :
    d.R e (W.setCells g o zs) base ok (.slice (some ⟨g, 0, none⟩) n c) xs ∧ W.grownBy (W.setCells g o zs) (some g) := by
  have hn := (Kd.R_reads' h).1
  obtain ⟨h0, inner, hown, hr⟩ := h
  obtain ⟨h1, h2, h3, h4⟩ := setCells_same g zs o W
  refine ⟨⟨h0, inner, ?_, hr.imp_ (fun p cs hp => Kd.M_step hp (fun k hk _ => setCells_far zs o k (fun he => hk.2 (by rw [he]; simp [Value.ownBlock]))))⟩, ⟨h1, h2, h3, by rw [h4]; exact Nat.le_refl _, fun k hk hne => setCells_far zs o k (fun he => hne (by rw [he]))⟩⟩
  obtain ⟨hl, hown⟩ := hown
  refine ⟨hl, ?_⟩
  rcases hown with ⟨hv, _⟩ | ⟨g', cap', cur, hv, hb, hh, hnc, hcm, hcs, htake⟩
  · cases hv
  · injection hv with ha hn' hc
    injection ha with ha
    injection ha with hg
    subst hg hc
    have hcl : cur.toList.length = c * d.sz := by rw [Array.length_toList]; exact hcs
    obtain ⟨cur', h5, h6, h7⟩ := setCells_row zs o W cur hh (by rw [hcs]; exact hz)
    refine .inr ⟨g, c, cur', by rw [hn], hb, h5, hnc, hcm, by rw [h6, hcs], ?_⟩
    rw [h7, List.append_assoc, List.take_append_of_le_length (by rw [List.length_take, hcl]; rw [hn] at ho; omega), List.take_take, Nat.min_eq_left (by rw [hn] at ho; exact ho)]
    exact htake
theorem run_clear_one {P : Program} (w : World) (t e ty : TypeId) (z : Value) (ht : P.underlying t = some (.slice e)) (hv : ∀ w, (zeroValue e).run P w = .ok z w) (h1 : ∀ u ∈ z.cells.toList, u.oneCell' = true) (b o c : Nat)
    (hc : ∀ j, j < z.cells.size → (w.cell? ⟨b, o + j, none⟩).isSome = true) (hf : ∀ j, j < z.cells.size → w.frozen? ⟨b, o + j, none⟩ = false) :
    (Builtin.clear_ #[t] ty #[.slice (some ⟨b, o, none⟩) 1 c]).run P w = .ok (.tuple #[]) (w.setCells b o z.cells.toList) := by
  have hzc : (Builtin.zeroCells z.cells 1).toList = z.cells.toList := by
    simp [Builtin.zeroCells]
    apply List.ext_getElem
    · simp
    · intro i h1 h2
      simp at h1
      simp only [List.getElem_map, List.getElem_range, Nat.mod_eq_of_lt h1, Array.getElem_toList]
      exact getElem!_pos z.cells i h1
  have hst := run_storeCells_cells (P := P) b o z.cells.toList 0 w (by simpa using hc) (by simpa using hf) h1
  simp only [Nat.add_zero] at hst
  simp [Builtin.clear_, run_underlying ht, hv, hzc, hst]
theorem R_cells {α : Type} {d : Kd α} {e base : Nat} {W : World} {ok : Nat → Prop} {g n c : Nat} {xs : List α} (h : d.R e W base ok (.slice (some ⟨g, 0, none⟩) n c) xs) (j : Nat) (hj : j < c * d.sz) : (W.cell? ⟨g, j, none⟩).isSome = true ∧ W.frozen? ⟨g, j, none⟩ = false := by
  obtain ⟨h0, inner, hown, hr⟩ := h
  obtain ⟨hl, hown⟩ := hown
  rcases hown with ⟨hv, _⟩ | ⟨g', cap', cur, hv, hb, hh, hnc, hcm, hcs, htake⟩
  · cases hv
  · injection hv with ha hn' hc
    injection ha with ha
    injection ha with hg
    subst hg hc
    refine ⟨?_, by simp [World.frozen?, hh]⟩
    rw [cell_of_row W g j cur e (0, 0) hh, Array.getElem?_eq_getElem (by rw [hcs]; exact hj)]
    rfl
end Go.Proofs.Ytlglbpjccpdloaa.Ext
namespace Go.Proofs.Ytlglbpjccpdloaa.PNamA
open Go.Proofs.Ytlglbpjccpdloaa.Ext Go.Proofs.Ytlglbpjccpdloaa.ToxZ Go.RowKit Go.Proofs.YtlglbpjccpdloaaW.PrintWords Go.Proofs.YtlglbpjccpdloaaW.PrintLast Go.Proofs.YtlglbpjccpdloaaW.PrintMore
attribute [local go_sem] max2_int min2_int max_two min_two max_three min_three max_four min_four   -- for this text's walks alone
set_option linter.unusedVariables false
set_option linter.unusedSimpArgs false
def names_Right.l0 : Nat → List (S24) → List (S24) → Int → Int → Option (Bool)
  | 0, _, _, _, _ => none
  | k + 1, x0, x5, x6, x7 => if x7 < x6 then (if 0 ≤ x7 then (if x7 < (x5.length : Int) then ((names_Check.f k ((rd_T24 x5 x7).f0) ((rd_T24 x5 x7).f1) ((rd_T24 x5 x7).f2) ((rd_T24 x5 x7).f3)).bind fun t118 => (if t118 = 0 then (if x7 > 0 then (if 0 ≤ (wrap64 (x7 - 1)) then (if (wrap64 (x7 - 1)) < (x0.length : Int) then (if ((Op.bytesLess (((rd_T24 x0 (wrap64 (x7 - 1))).f0).toList) (((rd_T24 x5 x7).f0).toList)) = true) then (names_Right.l0 k x0 x5 x6 (wrap64 (x7 + 1))) else (some false)) else (none)) else (none)) else (names_Right.l0 k x0 x5 x6 (wrap64 (x7 + 1)))) else (some false))) else (none)) else (none)) else (some (decide ((x0.length : Int) ≤ 8)))
def names_Right.f (k : Nat) (l0 : List (S24)) : Option (Bool) := names_Right.l0 k l0 l0 (l0.length : Int) 0
theorem names_Right.mono_l : ∀ k, (∀ y0 y1 y2 y3, LeO (names_Right.l0 k y0 y1 y2 y3) (names_Right.l0 (k + 1) y0 y1 y2 y3))
  | 0 => fun _ _ _ _ r h => by simp [names_Right.l0] at h
  | k + 1 => by
    have ih0 := names_Right.mono_l k
    · intro y0 y1 y2 y3
      unfold names_Right.l0
      repeat' first
      | (with_reducible exact ih0 _ _ _ _)
      | (with_reducible exact names_Check.mono _ _ _ _ _)
      | (with_reducible exact LeO.refl _)
      | (with_reducible exact LeO.none _)
      | (with_reducible refine LeO.ite ?_ ?_)
      | (with_reducible refine LeO.bind ?_ (fun _ => ?_))
      | exact ih0 _ _ _ _
      | exact names_Check.mono _ _ _ _ _
      | exact LeO.none _
      | refine LeO.ite ?_ ?_
      | refine LeO.bind ?_ (fun _ => ?_)
theorem names_Right.mono : ∀ a0 k, LeO (names_Right.f k a0) (names_Right.f (k + 1) a0) := by
  intro a0 k
  have ih0 := names_Right.mono_l k
  unfold names_Right.f
  repeat' first
      | (with_reducible exact ih0 _ _ _ _)
      | (with_reducible exact names_Check.mono _ _ _ _ _)
      | (with_reducible exact LeO.refl _)
      | (with_reducible exact LeO.none _)
      | (with_reducible refine LeO.ite ?_ ?_)
      | (with_reducible refine LeO.bind ?_ (fun _ => ?_))
      | exact ih0 _ _ _ _
      | exact names_Check.mono _ _ _ _ _
      | exact LeO.none _
      | refine LeO.ite ?_ ?_
      | refine LeO.bind ?_ (fun _ => ?_)
def names_Right.T4 : Bool × List (List Nat × List Nat) := (true, [([], []), ([0], [0]), ([1], [1]), ([2, 1], [2]), ([3], [3]), ([4, 3], [3, 4]), ([5, 3, 3], [3, 5]), ([6], [6]), ([6], [6]), ([8, 6], [6, 8]), ([7, 9, 6], [6, 7, 9]), ([10, 6], [6, 10]), ([11, 6], [6, 11]), ([6], [6]), ([13, 6], [6, 13]), ([12, 14, 6], [6, 12, 14]), ([6, 15, 3], [3, 6, 15]), ([3, 16], [3, 16])])
def names_Right.B4 : List Nat := [0, 1, 3, 7, 15, 31, 63, 127, 127, 383, 1023, 2047, 4095, 127, 8319, 32767, 65535, 131071]
theorem names_Right.tab4 : rtab .any (opsOf Try.f25 4) = names_Right.T4 := by kernel_rfl
theorem names_Right.bits4 : waitsOk names_Right.T4.2 names_Right.B4 = true := by kernel_rfl
set_option maxHeartbeats 8000000 in
set_option maxRecDepth 100000 in
theorem names_Right.calls (k : Nat) (A0 : Option Addr) (c0 : Nat) (l0 : List (S24)) (r : Bool) (w : World) (hr0 : Kd.C k24 w A0 l0.length l0) (hc0 : l0.length ≤ c0) (h : names_Right.f k l0 = some r) :
    Calls Try.prog 25 #[.slice A0 l0.length c0] w fun e w' => e = .returned (.bool r) ∧ Below w.heap.size w w' := by
  have hu24 := Try.underlying24
  have HR0 := Aside0.mk hr0
  have HC0 := Aside0.mk hc0
  clear hr0 hc0
  have HB := Aside0.mk (Below.refl w.heap.size w)
  have H : (names_Right.l0 k l0 l0 (l0.length : Int) 0) = some r := h
  clear h
  have H' := Aside0.mk H
  clear H
  go_enter Try.func25, Try.ntmps25
  go_wp2
  go_loopg [7] k (fun kq v7 w' => ∃ (x7_1 : Int), v7 = .int .i64 x7_1 ∧ Aside0 (names_Right.l0 kq l0 l0 (l0.length : Int) x7_1 = some r) ∧ Aside0 (kq ≤ k) ∧ Aside0 (Below w.heap.size w w'))
  case atStart => exact ⟨(0), (by first | rfl | (simp; done) | (simp [*]; done)), H', ⟨Nat.le_refl _⟩, ⟨by repeat (first | (with_reducible first | exact HB.out | apply below_alloc | apply pw_below_drewN | apply below_drew1) | exact HB.out)⟩⟩
  case round =>
    clear H'
    obtain ⟨x7_1, rfl, HA, HK1, HB⟩ := hrel
    cases gk with
    | zero => exact absurd HA.out (by simp [names_Right.l0])
    | succ k1 =>
      have H := HA.out
      clear HA
      simp only [names_Right.l0] at H
      by_cases c2 : x7_1 < (l0.length : Int)
      · rw [if_pos c2] at H
        have c2b0 : decide (x7_1 < (l0.length : Int)) = true := decide_eq_true c2
        clear c2
        by_cases c3 : 0 ≤ x7_1
        · rw [if_pos c3] at H
          have c3b0 : decide (0 ≤ x7_1) = true := decide_eq_true c3
          clear c3
          by_cases c4 : x7_1 < (l0.length : Int)
          · rw [if_pos c4] at H
            have c4b0 : decide (x7_1 < (l0.length : Int)) = true := decide_eq_true c4
            clear c4
            replace H := Option.bind_eq_some_iff.mp H
            obtain ⟨t118, A50, H⟩ := H
            replace H : (if t118 = 0 then (if x7_1 > 0 then (if 0 ≤ (wrap64 (x7_1 - 1)) then (if (wrap64 (x7_1 - 1)) < (l0.length : Int) then (if ((Op.bytesLess (((rd_T24 l0 (wrap64 (x7_1 - 1))).f0).toList) (((rd_T24 l0 x7_1).f0).toList)) = true) then (names_Right.l0 k1 l0 l0 (l0.length : Int) (wrap64 (x7_1 + 1))) else (some false)) else (none)) else (none)) else (names_Right.l0 k1 l0 l0 (l0.length : Int) (wrap64 (x7_1 + 1)))) else (some false)) = some r := H
            have A5 := Aside0.mk A50
            clear A50
            by_cases c6 : t118 = 0
            · rw [if_pos c6] at H
              have c6b0 : (t118 == 0) = true := beq_iff_eq.mpr c6
              have c6b1 : (t118 != 0) = false := bne_eq_false_iff_eq.mpr c6
              clear c6
              by_cases c7 : x7_1 > 0
              · rw [if_pos c7] at H
                have c7b0 : decide (0 < x7_1) = true := decide_eq_true c7
                clear c7
                obtain ⟨ji8, hji8⟩ : ∃ j_ : Int, (wrap64 (x7_1 - 1)) = j_ := ⟨_, rfl⟩
                replace H : (if 0 ≤ (ji8) then (if (ji8) < (l0.length : Int) then (if ((Op.bytesLess (((rd_T24 l0 (ji8)).f0).toList) (((rd_T24 l0 x7_1).f0).toList)) = true) then (names_Right.l0 k1 l0 l0 (l0.length : Int) (wrap64 (x7_1 + 1))) else (some false)) else (none)) else (none)) = some r := by first | (rw [hji8] at H; exact H) | (simp only [hji8] at H ⊢; exact H)
                (try rw [hji8] at A5)
                have hji8w : (IntKind.i64.wrap (x7_1 - 1)) = ji8 := (i64_w _).trans hji8
                by_cases c9 : 0 ≤ (ji8)
                · rw [if_pos c9] at H
                  have c9b0 : decide (0 ≤ (ji8)) = true := decide_eq_true c9
                  clear c9
                  by_cases c10 : (ji8) < (l0.length : Int)
                  · rw [if_pos c10] at H
                    have c10b0 : decide ((ji8) < (l0.length : Int)) = true := decide_eq_true c10
                    clear c10
                    by_cases c11 : ((Op.bytesLess (((rd_T24 l0 (ji8)).f0).toList) (((rd_T24 l0 x7_1).f0).toList)) = true)
                    · rw [if_pos c11] at H
                      have c11b0 : (Op.bytesLess (((rd_T24 l0 (ji8)).f0).toList) (((rd_T24 l0 x7_1).f0).toList)) = true := c11
                      clear c11
                      have H' := Aside0.mk H
                      clear H
                      have p116 : 0 ≤ (x7_1 : Int) := of_decide_eq_true (by first | (with_reducible assumption) | assumption)
                      have q116 : x7_1 < (l0.length : Int) := of_decide_eq_true (by first | (with_reducible assumption) | assumption)
                      obtain ⟨ad116, A116_3, c116_3, e116, hx116_0, hx116_1, hx116_2, hx116_3, hl116_3, hi116_3⟩ := at_T24 HR0.out x7_1 p116 q116
                      cases e116
                      replace hx116_0 := (HB.out.cell (World.block_lt_of_cell? w _ hx116_0)).trans hx116_0
                      replace hx116_1 := (HB.out.cell (World.block_lt_of_cell? w _ hx116_1)).trans hx116_1
                      replace hx116_2 := (HB.out.cell (World.block_lt_of_cell? w _ hx116_2)).trans hx116_2
                      replace hx116_3 := (HB.out.cell (World.block_lt_of_cell? w _ hx116_3)).trans hx116_3
                      have HR116_3 := Aside0.mk hi116_3
                      have HC116_3 := Aside0.mk hl116_3
                      clear hi116_3 hl116_3
                      replace p116 := eq_true p116
                      replace q116 := eq_true q116
                      try go_wp2_with (first | ((with_reducible refine gate_dst (N := 4) rfl ?_); refine box_event ?hg (N := 4) ?hd (cs := #[.string (⟨#[]⟩ : ByteArray), .bool false, .int .i64 0, .slice none 0 0]) (t := 24) ?hr ?_; (case hd => rfl); (case hg => rfl); (case hr => first | (go_simp; done) | (go_simp; rfl)); intro gb117 hg w12 hbox hb; have n0_ := Aside0.mk (below_step (by repeat (first | (with_reducible first | exact HB.out | apply below_alloc | apply pw_below_drewN | apply below_drew1) | exact HB.out)) hb); have n1_ := Aside0.mk (hbox); have n2_ := Aside0.mk ((by rw [hg]; exact (below_size (by repeat (first | (with_reducible first | exact HB.out | apply below_alloc | apply pw_below_drewN | apply below_drew1) | exact HB.out))) : w.heap.size ≤ gb117)); have n3_ := Aside0.mk ((by rw [hg]; exact (below_size (by repeat (first | (with_reducible first | exact HB.out | apply below_alloc | apply pw_below_drewN | apply below_drew1) | exact HB.out))) : w.heap.size ≤ gb117)); clear HB; have HB := n0_; have BK117 := n1_; have GW117 := n2_; have GE117 := n3_; clear n0_ n1_ n2_ n3_; clear hb hbox hg; have hcz13_0 : w12.cell? ⟨gb117, 0, none⟩ = some (.string (⟨#[]⟩ : ByteArray)) := (blk_cell BK117.out 0).trans rfl; have hcz13_1 : w12.cell? ⟨gb117, 1, none⟩ = some (.bool false) := (blk_cell BK117.out 1).trans rfl; have hcz13_2 : w12.cell? ⟨gb117, 2, none⟩ = some (.int .i64 0) := (blk_cell BK117.out 2).trans rfl; have hcz13_3 : w12.cell? ⟨gb117, 3, none⟩ = some (.slice none 0 0) := (blk_cell BK117.out 3).trans rfl; have hfz13_0 := blk_frozen BK117.out 0; have hfz13_1 := blk_frozen BK117.out 1; have hfz13_2 := blk_frozen BK117.out 2; have hfz13_3 := blk_frozen BK117.out 3))
                      have n0_ : Aside0 (((((w12.setCell ⟨gb117, 0, none⟩ (.string ((rd_T24 l0 x7_1).f0))).setCell ⟨gb117, 1, none⟩ (.bool ((rd_T24 l0 x7_1).f1))).setCell ⟨gb117, 2, none⟩ (.int .i64 ((rd_T24 l0 x7_1).f2))).setCell ⟨gb117, 3, none⟩ (.slice A116_3 ((rd_T24 l0 x7_1).f3).length c116_3)).heap[gb117]? = some (.cells #[.string ((rd_T24 l0 x7_1).f0), .bool ((rd_T24 l0 x7_1).f1), .int .i64 ((rd_T24 l0 x7_1).f2), .slice A116_3 ((rd_T24 l0 x7_1).f3).length c116_3] 24 (0, 0))) := ⟨by (with_reducible repeat (first | refine blk_drewN ?_ _ | refine blk_drew ?_ | refine blk_alloc ?_ _)); refine blk_put (cs := #[.string ((rd_T24 l0 x7_1).f0), .bool ((rd_T24 l0 x7_1).f1), .int .i64 ((rd_T24 l0 x7_1).f2), .slice none 0 0]) ?_ 3 _ rfl; (with_reducible repeat (first | refine blk_drewN ?_ _ | refine blk_drew ?_ | refine blk_alloc ?_ _)); refine blk_put (cs := #[.string ((rd_T24 l0 x7_1).f0), .bool ((rd_T24 l0 x7_1).f1), .int .i64 0, .slice none 0 0]) ?_ 2 _ rfl; (with_reducible repeat (first | refine blk_drewN ?_ _ | refine blk_drew ?_ | refine blk_alloc ?_ _)); refine blk_put (cs := #[.string ((rd_T24 l0 x7_1).f0), .bool false, .int .i64 0, .slice none 0 0]) ?_ 1 _ rfl; (with_reducible repeat (first | refine blk_drewN ?_ _ | refine blk_drew ?_ | refine blk_alloc ?_ _)); refine blk_put (cs := #[.string (⟨#[]⟩ : ByteArray), .bool false, .int .i64 0, .slice none 0 0]) ?_ 0 _ rfl; (with_reducible repeat (first | refine blk_drewN ?_ _ | refine blk_drew ?_ | refine blk_alloc ?_ _)); exact BK117.out⟩
                      have n1_ : Aside0 (Below w.heap.size w ((((w12.setCell ⟨gb117, 0, none⟩ (.string ((rd_T24 l0 x7_1).f0))).setCell ⟨gb117, 1, none⟩ (.bool ((rd_T24 l0 x7_1).f1))).setCell ⟨gb117, 2, none⟩ (.int .i64 ((rd_T24 l0 x7_1).f2))).setCell ⟨gb117, 3, none⟩ (.slice A116_3 ((rd_T24 l0 x7_1).f3).length c116_3))) := ⟨by repeat (first | (with_reducible first | exact HB.out | apply below_alloc | apply pw_below_drewN | apply below_drew1 | refine below_set ?_ GE117.out) | exact HB.out)⟩
                      (try clear BK117)
                      (try clear HB)
                      generalize ((((w12.setCell ⟨gb117, 0, none⟩ (.string ((rd_T24 l0 x7_1).f0))).setCell ⟨gb117, 1, none⟩ (.bool ((rd_T24 l0 x7_1).f1))).setCell ⟨gb117, 2, none⟩ (.int .i64 ((rd_T24 l0 x7_1).f2))).setCell ⟨gb117, 3, none⟩ (.slice A116_3 ((rd_T24 l0 x7_1).f3).length c116_3)) = w14 at n0_ n1_ ⊢
                      have BK117 := n0_
                      have HB := n1_
                      clear n0_ n1_
                      have n0_ := Aside0.mk (blk_drew BK117.out)
                      have n1_ := Aside0.mk (below_drew1 HB.out)
                      clear BK117
                      clear HB
                      have BK117 := n0_
                      have HB := n1_
                      clear n0_ n1_
                      have p119 : 0 ≤ ((ji8) : Int) := of_decide_eq_true (by first | (with_reducible assumption) | assumption)
                      have q119 : (ji8) < (l0.length : Int) := of_decide_eq_true (by first | (with_reducible assumption) | assumption)
                      obtain ⟨ad119, A119_3, c119_3, e119, hx119_0, hx119_1, hx119_2, hx119_3, hl119_3, hi119_3⟩ := at_T24 HR0.out (ji8) p119 q119
                      have hw119_3 := hx119_3
                      have hw119_2 := hx119_2
                      have hw119_1 := hx119_1
                      have hw119_0 := hx119_0
                      obtain rfl : ad116 = ad119 := (by injection e119)
                      replace hx119_0 := (HB.out.cell (World.block_lt_of_cell? w _ hx119_0)).trans hx119_0
                      replace hx119_1 := (HB.out.cell (World.block_lt_of_cell? w _ hx119_1)).trans hx119_1
                      replace hx119_2 := (HB.out.cell (World.block_lt_of_cell? w _ hx119_2)).trans hx119_2
                      replace hx119_3 := (HB.out.cell (World.block_lt_of_cell? w _ hx119_3)).trans hx119_3
                      have HR119_3 := Aside0.mk hi119_3
                      have HC119_3 := Aside0.mk hl119_3
                      clear hi119_3 hl119_3
                      replace p119 := eq_true p119
                      replace q119 := eq_true q119
                      refine start_ (n := 18) (S := fun w' => w'.cell? ⟨gb117, 0, none⟩ = some (.string ((rd_T24 l0 x7_1).f0)) ∧ w'.cell? ⟨gb117, 1, none⟩ = some (.bool ((rd_T24 l0 x7_1).f1)) ∧ w'.cell? ⟨gb117, 2, none⟩ = some (.int .i64 ((rd_T24 l0 x7_1).f2)) ∧ w'.cell? ⟨gb117, 3, none⟩ = some (.slice A116_3 ((rd_T24 l0 x7_1).f3).length c116_3) ∧ w'.cell? (ad116.add (((ji8)).toNat * 4)) = some (.string ((rd_T24 l0 (ji8)).f0)) ∧ w'.cell? ⟨(ad116.add (((ji8)).toNat * 4)).block, (ad116.add (((ji8)).toNat * 4)).off + 1, none⟩ = some (.bool ((rd_T24 l0 (ji8)).f1)) ∧ w'.cell? ⟨(ad116.add (((ji8)).toNat * 4)).block, (ad116.add (((ji8)).toNat * 4)).off + 2, none⟩ = some (.int .i64 ((rd_T24 l0 (ji8)).f2)) ∧ w'.cell? ⟨(ad116.add (((ji8)).toNat * 4)).block, (ad116.add (((ji8)).toNat * 4)).off + 3, none⟩ = some (.slice A119_3 ((rd_T24 l0 (ji8)).f3).length c119_3)) (ds := []) #[false, false, false, false, false, false, false, false, false, false, false, false, false, false, false, false, false, false] (by kernel_rfl) rfl rfl ⟨(blk_cell BK117.out 0).trans rfl, (blk_cell BK117.out 1).trans rfl, (blk_cell BK117.out 2).trans rfl, (blk_cell BK117.out 3).trans rfl, ((HB.out.cell (World.block_lt_of_cell? w _ hw119_0)).trans hw119_0), ((HB.out.cell (World.block_lt_of_cell? w _ hw119_1)).trans hw119_1), ((HB.out.cell (World.block_lt_of_cell? w _ hw119_2)).trans hw119_2), ((HB.out.cell (World.block_lt_of_cell? w _ hw119_3)).trans hw119_3)⟩ (fun hHeld => ?_); refine with_tabW names_Right.tab4 names_Right.bits4 (fun HT_ HW_ => ?_)
                      generalize w14.drew = w15 at BK117 HB HR119_3 hx119_0 hx119_1 hx119_2 hx119_3 hHeld ⊢
                      refine take_ (i := 0) (N := some 12) (v := ?_) (a' := ?_) #[true, false, false, false, false, false, false, false, false, false, false, false, false, false, false, false, false, false] rfl rfl (take_ofW HT_.out HW_.out (by kernel_rfl)) (fun _ _ _ h => h) (Or.inl ⟨by rfl, ?_⟩) hHeld ?_ ?_
                      rotate_left
                      · rintro w' ⟨s0, s1, s2, s3, s4, s5, s6, s7⟩
                        go_simp
                        with_reducible rfl
                      rotate_left
                      · simp only [Act.put, List.setIfInBounds_toArray, List.set_cons_zero, List.set_cons_succ, i64_w, i32_w]
                        rfl
                      refine one_ (i := 1) (N := some 13) #[true, true, false, false, false, false, false, false, false, false, false, false, false, false, false, false, false, false] rfl rfl (one_of HT_.out (by kernel_rfl)) (by decide) (fun K hK => ?_)
                      refine goes_ Try.func11 (by kernel_rfl) rfl #[.agg #[.string ((rd_T24 l0 x7_1).f0), .bool ((rd_T24 l0 x7_1).f1), .int .i64 ((rd_T24 l0 x7_1).f2), .slice A116_3 ((rd_T24 l0 x7_1).f3).length c116_3]] (by rfl) rfl rfl (by (try simp only [List.map_toArray, List.map_cons, List.map_nil]); first | done | rfl | (simp only [List.length_drop, List.length_take]; rfl)) ?_
                      with_reducible refine (names_Check.calls k1 ((rd_T24 l0 x7_1).f0) ((rd_T24 l0 x7_1).f1) ((rd_T24 l0 x7_1).f2) _ _ ((rd_T24 l0 x7_1).f3) t118 _ ?side1 ?side2 A5.out).mono ?_
                      (case side1 => repeat (first | exact (Kd.C_below HR116_3.out HB.out) | (with_reducible refine Kd.C_alloc ?_ _) | (with_reducible refine Kd.C_drewN ?_ _) | (with_reducible refine Kd.C_drew ?_)))
                      (case side2 => exact HC116_3.out)
                      rintro e w16 ⟨rfl, hb⟩
                      refine ⟨_, rfl, ?_⟩
                      have n0_ := Aside0.mk (blk_below (g := gb117) (o := .cells #[.string ((rd_T24 l0 x7_1).f0), .bool ((rd_T24 l0 x7_1).f1), .int .i64 ((rd_T24 l0 x7_1).f2), .slice A116_3 ((rd_T24 l0 x7_1).f3).length c116_3] 24 (0, 0)) (by (with_reducible repeat (first | refine blk_drewN ?_ _ | refine blk_drew ?_ | refine blk_alloc ?_ _)); exact BK117.out) hb)
                      have n1_ := Aside0.mk (below_step (by repeat (first | (with_reducible first | exact HB.out | apply below_alloc | apply pw_below_drewN | apply below_drew1 | refine below_set ?_ GE117.out) | exact HB.out)) hb)
                      clear BK117
                      clear HB
                      have BK117 := n0_
                      have HB := n1_
                      clear n0_ n1_
                      (try clear hb)
                      (try clear hb2)
                      (try clear hk)
                      (try clear hi)
                      refine hK.out _ _ ⟨(blk_cell BK117.out 0).trans rfl, (blk_cell BK117.out 1).trans rfl, (blk_cell BK117.out 2).trans rfl, (blk_cell BK117.out 3).trans rfl, ((HB.out.cell (World.block_lt_of_cell? w _ hw119_0)).trans hw119_0), ((HB.out.cell (World.block_lt_of_cell? w _ hw119_1)).trans hw119_1), ((HB.out.cell (World.block_lt_of_cell? w _ hw119_2)).trans hw119_2), ((HB.out.cell (World.block_lt_of_cell? w _ hw119_3)).trans hw119_3)⟩ (fun hHeld => ?_)
                      clear hK K
                      refine norm_ (a' := ?_) ?_ ?_
                      rotate_left
                      · show Act.put _ (some 13) _ = _
                        simp only [Act.put, List.setIfInBounds_toArray, List.set_cons_zero, List.set_cons_succ, i64_w, i32_w]
                        rfl
                      refine pure_ (i := 2) (N := some 14) (v := ?_) (a' := ?_) #[true, true, true, false, false, false, false, false, false, false, false, false, false, false, false, false, false, false] rfl rfl (any_of HT_.out (by kernel_rfl)) (fun _ _ _ h => h) (Or.inl ⟨by rfl, ?_⟩) ?_ ?_
                      rotate_left
                      · intro w'
                        go_simp
                        with_reducible rfl
                      rotate_left
                      · simp only [Act.put, List.setIfInBounds_toArray, List.set_cons_zero, List.set_cons_succ, i64_w, i32_w]
                        rfl
                      refine pure_ (i := 3) (N := some 15) (v := ?_) (a' := ?_) #[true, true, true, true, false, false, false, false, false, false, false, false, false, false, false, false, false, false] rfl rfl (any_of HT_.out (by kernel_rfl)) (fun _ _ _ h => h) (Or.inl ⟨by rfl, ?_⟩) ?_ ?_
                      rotate_left
                      · intro w'
                        go_simp
                        with_reducible rfl
                      rotate_left
                      · simp only [Act.put, List.setIfInBounds_toArray, List.set_cons_zero, List.set_cons_succ, i64_w, i32_w]
                        rfl
                      refine pure_ (i := 4) (N := some 16) (v := ?_) (a' := ?_) #[true, true, true, true, true, false, false, false, false, false, false, false, false, false, false, false, false, false] rfl rfl (any_of HT_.out (by kernel_rfl)) (fun _ _ _ h => h) (Or.inl ⟨by rfl, ?_⟩) ?_ ?_
                      rotate_left
                      · intro w'
                        go_simp
                        with_reducible rfl
                      rotate_left
                      · simp only [Act.put, List.setIfInBounds_toArray, List.set_cons_zero, List.set_cons_succ, i64_w, i32_w]
                        rfl
                      refine pure_ (i := 5) (N := some 17) (v := ?_) (a' := ?_) #[true, true, true, true, true, true, false, false, false, false, false, false, false, false, false, false, false, false] rfl rfl (any_of HT_.out (by kernel_rfl)) (fun _ _ _ h => h) (Or.inl ⟨by rfl, ?_⟩) ?_ ?_
                      rotate_left
                      · intro w'
                        go_simp
                        with_reducible rfl
                      rotate_left
                      · simp only [Act.put, List.setIfInBounds_toArray, List.set_cons_zero, List.set_cons_succ, i64_w, i32_w]
                        rfl
                      refine pure_ (i := 6) (N := some 18) (v := ?_) (a' := ?_) #[true, true, true, true, true, true, true, false, false, false, false, false, false, false, false, false, false, false] rfl rfl (any_of HT_.out (by kernel_rfl)) (fun _ _ _ h => h) (Or.inl ⟨by rfl, ?_⟩) ?_ ?_
                      rotate_left
                      · intro w'
                        go_simp
                        with_reducible rfl
                      rotate_left
                      · simp only [Act.put, List.setIfInBounds_toArray, List.set_cons_zero, List.set_cons_succ, i64_w, i32_w]
                        rfl
                      refine pure_ (i := 7) (N := some 19) (v := ?_) (a' := ?_) #[true, true, true, true, true, true, true, true, false, false, false, false, false, false, false, false, false, false] rfl rfl (any_of HT_.out (by kernel_rfl)) (fun _ _ _ h => h) (Or.inl ⟨by rfl, ?_⟩) ?_ ?_
                      rotate_left
                      · intro w'
                        go_simp
                        with_reducible rfl
                      rotate_left
                      · simp only [Act.put, List.setIfInBounds_toArray, List.set_cons_zero, List.set_cons_succ, i64_w, i32_w]
                        rfl
                      refine pure_ (i := 8) (N := some 20) (v := ?_) (a' := ?_) #[true, true, true, true, true, true, true, true, true, false, false, false, false, false, false, false, false, false] rfl rfl (any_of HT_.out (by kernel_rfl)) (fun _ _ _ h => h) (Or.inl ⟨by rfl, ?_⟩) ?_ ?_
                      rotate_left
                      · intro w'
                        go_simp
                        with_reducible rfl
                      rotate_left
                      · simp only [Act.put, List.setIfInBounds_toArray, List.set_cons_zero, List.set_cons_succ, i64_w, i32_w]
                        rfl
                      refine pure_ (i := 9) (N := some 21) (v := ?_) (a' := ?_) #[true, true, true, true, true, true, true, true, true, true, false, false, false, false, false, false, false, false] rfl rfl (any_of HT_.out (by kernel_rfl)) (fun _ _ _ h => h) (Or.inl ⟨by rfl, ?_⟩) ?_ ?_
                      rotate_left
                      · intro w'
                        go_simp
                        with_reducible rfl
                      rotate_left
                      · simp only [Act.put, List.setIfInBounds_toArray, List.set_cons_zero, List.set_cons_succ, i64_w, i32_w]
                        rfl
                      refine pure_ (i := 10) (N := some 22) (v := ?_) (a' := ?_) #[true, true, true, true, true, true, true, true, true, true, true, false, false, false, false, false, false, false] rfl rfl (any_of HT_.out (by kernel_rfl)) (fun _ _ _ h => h) (Or.inl ⟨by rfl, ?_⟩) ?_ ?_
                      rotate_left
                      · intro w'
                        go_simp
                        with_reducible rfl
                      rotate_left
                      · simp only [Act.put, List.setIfInBounds_toArray, List.set_cons_zero, List.set_cons_succ, i64_w, i32_w]
                        rfl
                      refine pure_ (i := 11) (N := some 23) (v := ?_) (a' := ?_) #[true, true, true, true, true, true, true, true, true, true, true, true, false, false, false, false, false, false] rfl rfl (any_of HT_.out (by kernel_rfl)) (fun _ _ _ h => h) (Or.inl ⟨by rfl, ?_⟩) ?_ ?_
                      rotate_left
                      · intro w'
                        go_simp
                        with_reducible rfl
                      rotate_left
                      · simp only [Act.put, List.setIfInBounds_toArray, List.set_cons_zero, List.set_cons_succ, i64_w, i32_w]
                        rfl
                      refine pure_ (i := 13) (N := some 25) (v := ?_) (a' := ?_) #[true, true, true, true, true, true, true, true, true, true, true, true, false, true, false, false, false, false] rfl rfl (any_of HT_.out (by kernel_rfl)) (fun _ _ _ h => h) (Or.inl ⟨by rfl, ?_⟩) ?_ ?_
                      rotate_left
                      · intro w'
                        go_simp
                        with_reducible rfl
                      rotate_left
                      · simp only [Act.put, List.setIfInBounds_toArray, List.set_cons_zero, List.set_cons_succ, i64_w, i32_w]
                        rfl
                      refine take_ (i := 12) (N := some 24) (v := ?_) (a' := ?_) #[true, true, true, true, true, true, true, true, true, true, true, true, true, true, false, false, false, false] rfl rfl (take_ofW HT_.out HW_.out (by kernel_rfl)) (fun _ _ _ h => h) (Or.inl ⟨by rfl, ?_⟩) hHeld ?_ ?_
                      rotate_left
                      · rintro w' ⟨s0, s1, s2, s3, s4, s5, s6, s7⟩
                        go_simp
                        with_reducible rfl
                      rotate_left
                      · simp only [Act.put, List.setIfInBounds_toArray, List.set_cons_zero, List.set_cons_succ, i64_w, i32_w]
                        rfl
                      refine take_ (i := 14) (N := some 26) (v := ?_) (a' := ?_) #[true, true, true, true, true, true, true, true, true, true, true, true, true, true, true, false, false, false] rfl rfl (take_ofW HT_.out HW_.out (by kernel_rfl)) (fun _ _ _ h => h) (Or.inl ⟨by rfl, ?_⟩) hHeld ?_ ?_
                      rotate_left
                      · rintro w' ⟨s0, s1, s2, s3, s4, s5, s6, s7⟩
                        go_simp
                        with_reducible rfl
                      rotate_left
                      · simp only [Act.put, List.setIfInBounds_toArray, List.set_cons_zero, List.set_cons_succ, i64_w, i32_w]
                        rfl
                      refine pure_ (i := 15) (N := some 27) (v := ?_) (a' := ?_) #[true, true, true, true, true, true, true, true, true, true, true, true, true, true, true, true, false, false] rfl rfl (any_of HT_.out (by kernel_rfl)) (fun _ _ _ h => h) (Or.inl ⟨by rfl, ?_⟩) ?_ ?_
                      rotate_left
                      · intro w'
                        go_simp
                        with_reducible rfl
                      rotate_left
                      · simp only [Act.put, List.setIfInBounds_toArray, List.set_cons_zero, List.set_cons_succ, i64_w, i32_w]
                        rfl
                      refine pure_ (i := 16) (N := some 28) (v := ?_) (a' := ?_) #[true, true, true, true, true, true, true, true, true, true, true, true, true, true, true, true, true, false] rfl rfl (any_of HT_.out (by kernel_rfl)) (fun _ _ _ h => h) (Or.inl ⟨by rfl, ?_⟩) ?_ ?_
                      rotate_left
                      · intro w'
                        go_simp
                        with_reducible rfl
                      rotate_left
                      · simp only [Act.put, List.setIfInBounds_toArray, List.set_cons_zero, List.set_cons_succ, i64_w, i32_w]
                        rfl
                      refine pure_ (i := 17) (N := some 29) (v := ?_) (a' := ?_) #[true, true, true, true, true, true, true, true, true, true, true, true, true, true, true, true, true, true] rfl rfl (any_of HT_.out (by kernel_rfl)) (fun _ _ _ h => h) (Or.inl ⟨by rfl, ?_⟩) ?_ ?_
                      rotate_left
                      · intro w'
                        go_simp
                        with_reducible rfl
                      rotate_left
                      · simp only [Act.put, List.setIfInBounds_toArray, List.set_cons_zero, List.set_cons_succ, i64_w, i32_w]
                        rfl
                      refine done_ (done_of HT_.out (by kernel_rfl)) ?_
                      try go_wp2
                      go_roundg k1
                      case measure => have := HK1.out; omega
                      case rel => exact ⟨(wrap64 (x7_1 + 1)), (by first | rfl | (simp; done) | (simp [*]; done)), H', ⟨by have := HK1.out; omega⟩, ⟨by repeat (first | (with_reducible first | exact HB.out | apply below_alloc | apply pw_below_drewN | apply below_drew1 | refine below_set ?_ GE117.out) | exact HB.out)⟩⟩
                    · rw [if_neg c11] at H
                      have c11b0 : (Op.bytesLess (((rd_T24 l0 (ji8)).f0).toList) (((rd_T24 l0 x7_1).f0).toList)) = false := by simpa using c11
                      clear c11
                      obtain rfl := Option.some.inj H
                      have p116 : 0 ≤ (x7_1 : Int) := of_decide_eq_true (by first | (with_reducible assumption) | assumption)
                      have q116 : x7_1 < (l0.length : Int) := of_decide_eq_true (by first | (with_reducible assumption) | assumption)
                      obtain ⟨ad116, A116_3, c116_3, e116, hx116_0, hx116_1, hx116_2, hx116_3, hl116_3, hi116_3⟩ := at_T24 HR0.out x7_1 p116 q116
                      cases e116
                      replace hx116_0 := (HB.out.cell (World.block_lt_of_cell? w _ hx116_0)).trans hx116_0
                      replace hx116_1 := (HB.out.cell (World.block_lt_of_cell? w _ hx116_1)).trans hx116_1
                      replace hx116_2 := (HB.out.cell (World.block_lt_of_cell? w _ hx116_2)).trans hx116_2
                      replace hx116_3 := (HB.out.cell (World.block_lt_of_cell? w _ hx116_3)).trans hx116_3
                      have HR116_3 := Aside0.mk hi116_3
                      have HC116_3 := Aside0.mk hl116_3
                      clear hi116_3 hl116_3
                      replace p116 := eq_true p116
                      replace q116 := eq_true q116
                      try go_wp2_with (first | ((with_reducible refine gate_dst (N := 4) rfl ?_); refine box_event ?hg (N := 4) ?hd (cs := #[.string (⟨#[]⟩ : ByteArray), .bool false, .int .i64 0, .slice none 0 0]) (t := 24) ?hr ?_; (case hd => rfl); (case hg => rfl); (case hr => first | (go_simp; done) | (go_simp; rfl)); intro gb117 hg w17 hbox hb; have n0_ := Aside0.mk (below_step (by repeat (first | (with_reducible first | exact HB.out | apply below_alloc | apply pw_below_drewN | apply below_drew1) | exact HB.out)) hb); have n1_ := Aside0.mk (hbox); have n2_ := Aside0.mk ((by rw [hg]; exact (below_size (by repeat (first | (with_reducible first | exact HB.out | apply below_alloc | apply pw_below_drewN | apply below_drew1) | exact HB.out))) : w.heap.size ≤ gb117)); have n3_ := Aside0.mk ((by rw [hg]; exact (below_size (by repeat (first | (with_reducible first | exact HB.out | apply below_alloc | apply pw_below_drewN | apply below_drew1) | exact HB.out))) : w.heap.size ≤ gb117)); clear HB; have HB := n0_; have BK117 := n1_; have GW117 := n2_; have GE117 := n3_; clear n0_ n1_ n2_ n3_; clear hb hbox hg; have hcz18_0 : w17.cell? ⟨gb117, 0, none⟩ = some (.string (⟨#[]⟩ : ByteArray)) := (blk_cell BK117.out 0).trans rfl; have hcz18_1 : w17.cell? ⟨gb117, 1, none⟩ = some (.bool false) := (blk_cell BK117.out 1).trans rfl; have hcz18_2 : w17.cell? ⟨gb117, 2, none⟩ = some (.int .i64 0) := (blk_cell BK117.out 2).trans rfl; have hcz18_3 : w17.cell? ⟨gb117, 3, none⟩ = some (.slice none 0 0) := (blk_cell BK117.out 3).trans rfl; have hfz18_0 := blk_frozen BK117.out 0; have hfz18_1 := blk_frozen BK117.out 1; have hfz18_2 := blk_frozen BK117.out 2; have hfz18_3 := blk_frozen BK117.out 3))
                      have n0_ : Aside0 (((((w17.setCell ⟨gb117, 0, none⟩ (.string ((rd_T24 l0 x7_1).f0))).setCell ⟨gb117, 1, none⟩ (.bool ((rd_T24 l0 x7_1).f1))).setCell ⟨gb117, 2, none⟩ (.int .i64 ((rd_T24 l0 x7_1).f2))).setCell ⟨gb117, 3, none⟩ (.slice A116_3 ((rd_T24 l0 x7_1).f3).length c116_3)).heap[gb117]? = some (.cells #[.string ((rd_T24 l0 x7_1).f0), .bool ((rd_T24 l0 x7_1).f1), .int .i64 ((rd_T24 l0 x7_1).f2), .slice A116_3 ((rd_T24 l0 x7_1).f3).length c116_3] 24 (0, 0))) := ⟨by (with_reducible repeat (first | refine blk_drewN ?_ _ | refine blk_drew ?_ | refine blk_alloc ?_ _)); refine blk_put (cs := #[.string ((rd_T24 l0 x7_1).f0), .bool ((rd_T24 l0 x7_1).f1), .int .i64 ((rd_T24 l0 x7_1).f2), .slice none 0 0]) ?_ 3 _ rfl; (with_reducible repeat (first | refine blk_drewN ?_ _ | refine blk_drew ?_ | refine blk_alloc ?_ _)); refine blk_put (cs := #[.string ((rd_T24 l0 x7_1).f0), .bool ((rd_T24 l0 x7_1).f1), .int .i64 0, .slice none 0 0]) ?_ 2 _ rfl; (with_reducible repeat (first | refine blk_drewN ?_ _ | refine blk_drew ?_ | refine blk_alloc ?_ _)); refine blk_put (cs := #[.string ((rd_T24 l0 x7_1).f0), .bool false, .int .i64 0, .slice none 0 0]) ?_ 1 _ rfl; (with_reducible repeat (first | refine blk_drewN ?_ _ | refine blk_drew ?_ | refine blk_alloc ?_ _)); refine blk_put (cs := #[.string (⟨#[]⟩ : ByteArray), .bool false, .int .i64 0, .slice none 0 0]) ?_ 0 _ rfl; (with_reducible repeat (first | refine blk_drewN ?_ _ | refine blk_drew ?_ | refine blk_alloc ?_ _)); exact BK117.out⟩
                      have n1_ : Aside0 (Below w.heap.size w ((((w17.setCell ⟨gb117, 0, none⟩ (.string ((rd_T24 l0 x7_1).f0))).setCell ⟨gb117, 1, none⟩ (.bool ((rd_T24 l0 x7_1).f1))).setCell ⟨gb117, 2, none⟩ (.int .i64 ((rd_T24 l0 x7_1).f2))).setCell ⟨gb117, 3, none⟩ (.slice A116_3 ((rd_T24 l0 x7_1).f3).length c116_3))) := ⟨by repeat (first | (with_reducible first | exact HB.out | apply below_alloc | apply pw_below_drewN | apply below_drew1 | refine below_set ?_ GE117.out) | exact HB.out)⟩
                      (try clear BK117)
                      (try clear HB)
                      generalize ((((w17.setCell ⟨gb117, 0, none⟩ (.string ((rd_T24 l0 x7_1).f0))).setCell ⟨gb117, 1, none⟩ (.bool ((rd_T24 l0 x7_1).f1))).setCell ⟨gb117, 2, none⟩ (.int .i64 ((rd_T24 l0 x7_1).f2))).setCell ⟨gb117, 3, none⟩ (.slice A116_3 ((rd_T24 l0 x7_1).f3).length c116_3)) = w19 at n0_ n1_ ⊢
                      have BK117 := n0_
                      have HB := n1_
                      clear n0_ n1_
                      have n0_ := Aside0.mk (blk_drew BK117.out)
                      have n1_ := Aside0.mk (below_drew1 HB.out)
                      clear BK117
                      clear HB
                      have BK117 := n0_
                      have HB := n1_
                      clear n0_ n1_
                      have p119 : 0 ≤ ((ji8) : Int) := of_decide_eq_true (by first | (with_reducible assumption) | assumption)
                      have q119 : (ji8) < (l0.length : Int) := of_decide_eq_true (by first | (with_reducible assumption) | assumption)
                      obtain ⟨ad119, A119_3, c119_3, e119, hx119_0, hx119_1, hx119_2, hx119_3, hl119_3, hi119_3⟩ := at_T24 HR0.out (ji8) p119 q119
                      have hw119_3 := hx119_3
                      have hw119_2 := hx119_2
                      have hw119_1 := hx119_1
                      have hw119_0 := hx119_0
                      obtain rfl : ad116 = ad119 := (by injection e119)
                      replace hx119_0 := (HB.out.cell (World.block_lt_of_cell? w _ hx119_0)).trans hx119_0
                      replace hx119_1 := (HB.out.cell (World.block_lt_of_cell? w _ hx119_1)).trans hx119_1
                      replace hx119_2 := (HB.out.cell (World.block_lt_of_cell? w _ hx119_2)).trans hx119_2
                      replace hx119_3 := (HB.out.cell (World.block_lt_of_cell? w _ hx119_3)).trans hx119_3
                      have HR119_3 := Aside0.mk hi119_3
                      have HC119_3 := Aside0.mk hl119_3
                      clear hi119_3 hl119_3
                      replace p119 := eq_true p119
                      replace q119 := eq_true q119
                      refine start_ (n := 18) (S := fun w' => w'.cell? ⟨gb117, 0, none⟩ = some (.string ((rd_T24 l0 x7_1).f0)) ∧ w'.cell? ⟨gb117, 1, none⟩ = some (.bool ((rd_T24 l0 x7_1).f1)) ∧ w'.cell? ⟨gb117, 2, none⟩ = some (.int .i64 ((rd_T24 l0 x7_1).f2)) ∧ w'.cell? ⟨gb117, 3, none⟩ = some (.slice A116_3 ((rd_T24 l0 x7_1).f3).length c116_3) ∧ w'.cell? (ad116.add (((ji8)).toNat * 4)) = some (.string ((rd_T24 l0 (ji8)).f0)) ∧ w'.cell? ⟨(ad116.add (((ji8)).toNat * 4)).block, (ad116.add (((ji8)).toNat * 4)).off + 1, none⟩ = some (.bool ((rd_T24 l0 (ji8)).f1)) ∧ w'.cell? ⟨(ad116.add (((ji8)).toNat * 4)).block, (ad116.add (((ji8)).toNat * 4)).off + 2, none⟩ = some (.int .i64 ((rd_T24 l0 (ji8)).f2)) ∧ w'.cell? ⟨(ad116.add (((ji8)).toNat * 4)).block, (ad116.add (((ji8)).toNat * 4)).off + 3, none⟩ = some (.slice A119_3 ((rd_T24 l0 (ji8)).f3).length c119_3)) (ds := []) #[false, false, false, false, false, false, false, false, false, false, false, false, false, false, false, false, false, false] (by kernel_rfl) rfl rfl ⟨(blk_cell BK117.out 0).trans rfl, (blk_cell BK117.out 1).trans rfl, (blk_cell BK117.out 2).trans rfl, (blk_cell BK117.out 3).trans rfl, ((HB.out.cell (World.block_lt_of_cell? w _ hw119_0)).trans hw119_0), ((HB.out.cell (World.block_lt_of_cell? w _ hw119_1)).trans hw119_1), ((HB.out.cell (World.block_lt_of_cell? w _ hw119_2)).trans hw119_2), ((HB.out.cell (World.block_lt_of_cell? w _ hw119_3)).trans hw119_3)⟩ (fun hHeld => ?_); refine with_tabW names_Right.tab4 names_Right.bits4 (fun HT_ HW_ => ?_)
                      generalize w19.drew = w20 at BK117 HB HR119_3 hx119_0 hx119_1 hx119_2 hx119_3 hHeld ⊢
                      refine take_ (i := 0) (N := some 12) (v := ?_) (a' := ?_) #[true, false, false, false, false, false, false, false, false, false, false, false, false, false, false, false, false, false] rfl rfl (take_ofW HT_.out HW_.out (by kernel_rfl)) (fun _ _ _ h => h) (Or.inl ⟨by rfl, ?_⟩) hHeld ?_ ?_
                      rotate_left
                      · rintro w' ⟨s0, s1, s2, s3, s4, s5, s6, s7⟩
                        go_simp
                        with_reducible rfl
                      rotate_left
                      · simp only [Act.put, List.setIfInBounds_toArray, List.set_cons_zero, List.set_cons_succ, i64_w, i32_w]
                        rfl
                      refine one_ (i := 1) (N := some 13) #[true, true, false, false, false, false, false, false, false, false, false, false, false, false, false, false, false, false] rfl rfl (one_of HT_.out (by kernel_rfl)) (by decide) (fun K hK => ?_)
                      refine goes_ Try.func11 (by kernel_rfl) rfl #[.agg #[.string ((rd_T24 l0 x7_1).f0), .bool ((rd_T24 l0 x7_1).f1), .int .i64 ((rd_T24 l0 x7_1).f2), .slice A116_3 ((rd_T24 l0 x7_1).f3).length c116_3]] (by rfl) rfl rfl (by (try simp only [List.map_toArray, List.map_cons, List.map_nil]); first | done | rfl | (simp only [List.length_drop, List.length_take]; rfl)) ?_
                      with_reducible refine (names_Check.calls k1 ((rd_T24 l0 x7_1).f0) ((rd_T24 l0 x7_1).f1) ((rd_T24 l0 x7_1).f2) _ _ ((rd_T24 l0 x7_1).f3) t118 _ ?side1 ?side2 A5.out).mono ?_
                      (case side1 => repeat (first | exact (Kd.C_below HR116_3.out HB.out) | (with_reducible refine Kd.C_alloc ?_ _) | (with_reducible refine Kd.C_drewN ?_ _) | (with_reducible refine Kd.C_drew ?_)))
                      (case side2 => exact HC116_3.out)
                      rintro e w21 ⟨rfl, hb⟩
                      refine ⟨_, rfl, ?_⟩
                      have n0_ := Aside0.mk (blk_below (g := gb117) (o := .cells #[.string ((rd_T24 l0 x7_1).f0), .bool ((rd_T24 l0 x7_1).f1), .int .i64 ((rd_T24 l0 x7_1).f2), .slice A116_3 ((rd_T24 l0 x7_1).f3).length c116_3] 24 (0, 0)) (by (with_reducible repeat (first | refine blk_drewN ?_ _ | refine blk_drew ?_ | refine blk_alloc ?_ _)); exact BK117.out) hb)
                      have n1_ := Aside0.mk (below_step (by repeat (first | (with_reducible first | exact HB.out | apply below_alloc | apply pw_below_drewN | apply below_drew1 | refine below_set ?_ GE117.out) | exact HB.out)) hb)
                      clear BK117
                      clear HB
                      have BK117 := n0_
                      have HB := n1_
                      clear n0_ n1_
                      (try clear hb)
                      (try clear hb2)
                      (try clear hk)
                      (try clear hi)
                      refine hK.out _ _ ⟨(blk_cell BK117.out 0).trans rfl, (blk_cell BK117.out 1).trans rfl, (blk_cell BK117.out 2).trans rfl, (blk_cell BK117.out 3).trans rfl, ((HB.out.cell (World.block_lt_of_cell? w _ hw119_0)).trans hw119_0), ((HB.out.cell (World.block_lt_of_cell? w _ hw119_1)).trans hw119_1), ((HB.out.cell (World.block_lt_of_cell? w _ hw119_2)).trans hw119_2), ((HB.out.cell (World.block_lt_of_cell? w _ hw119_3)).trans hw119_3)⟩ (fun hHeld => ?_)
                      clear hK K
                      refine norm_ (a' := ?_) ?_ ?_
                      rotate_left
                      · show Act.put _ (some 13) _ = _
                        simp only [Act.put, List.setIfInBounds_toArray, List.set_cons_zero, List.set_cons_succ, i64_w, i32_w]
                        rfl
                      refine pure_ (i := 2) (N := some 14) (v := ?_) (a' := ?_) #[true, true, true, false, false, false, false, false, false, false, false, false, false, false, false, false, false, false] rfl rfl (any_of HT_.out (by kernel_rfl)) (fun _ _ _ h => h) (Or.inl ⟨by rfl, ?_⟩) ?_ ?_
                      rotate_left
                      · intro w'
                        go_simp
                        with_reducible rfl
                      rotate_left
                      · simp only [Act.put, List.setIfInBounds_toArray, List.set_cons_zero, List.set_cons_succ, i64_w, i32_w]
                        rfl
                      refine pure_ (i := 3) (N := some 15) (v := ?_) (a' := ?_) #[true, true, true, true, false, false, false, false, false, false, false, false, false, false, false, false, false, false] rfl rfl (any_of HT_.out (by kernel_rfl)) (fun _ _ _ h => h) (Or.inl ⟨by rfl, ?_⟩) ?_ ?_
                      rotate_left
                      · intro w'
                        go_simp
                        with_reducible rfl
                      rotate_left
                      · simp only [Act.put, List.setIfInBounds_toArray, List.set_cons_zero, List.set_cons_succ, i64_w, i32_w]
                        rfl
                      refine pure_ (i := 4) (N := some 16) (v := ?_) (a' := ?_) #[true, true, true, true, true, false, false, false, false, false, false, false, false, false, false, false, false, false] rfl rfl (any_of HT_.out (by kernel_rfl)) (fun _ _ _ h => h) (Or.inl ⟨by rfl, ?_⟩) ?_ ?_
                      rotate_left
                      · intro w'
                        go_simp
                        with_reducible rfl
                      rotate_left
                      · simp only [Act.put, List.setIfInBounds_toArray, List.set_cons_zero, List.set_cons_succ, i64_w, i32_w]
                        rfl
                      refine pure_ (i := 5) (N := some 17) (v := ?_) (a' := ?_) #[true, true, true, true, true, true, false, false, false, false, false, false, false, false, false, false, false, false] rfl rfl (any_of HT_.out (by kernel_rfl)) (fun _ _ _ h => h) (Or.inl ⟨by rfl, ?_⟩) ?_ ?_
                      rotate_left
                      · intro w'
                        go_simp
                        with_reducible rfl
                      rotate_left
                      · simp only [Act.put, List.setIfInBounds_toArray, List.set_cons_zero, List.set_cons_succ, i64_w, i32_w]
                        rfl
                      refine pure_ (i := 6) (N := some 18) (v := ?_) (a' := ?_) #[true, true, true, true, true, true, true, false, false, false, false, false, false, false, false, false, false, false] rfl rfl (any_of HT_.out (by kernel_rfl)) (fun _ _ _ h => h) (Or.inl ⟨by rfl, ?_⟩) ?_ ?_
                      rotate_left
                      · intro w'
                        go_simp
                        with_reducible rfl
                      rotate_left
                      · simp only [Act.put, List.setIfInBounds_toArray, List.set_cons_zero, List.set_cons_succ, i64_w, i32_w]
                        rfl
                      refine pure_ (i := 7) (N := some 19) (v := ?_) (a' := ?_) #[true, true, true, true, true, true, true, true, false, false, false, false, false, false, false, false, false, false] rfl rfl (any_of HT_.out (by kernel_rfl)) (fun _ _ _ h => h) (Or.inl ⟨by rfl, ?_⟩) ?_ ?_
                      rotate_left
                      · intro w'
                        go_simp
                        with_reducible rfl
                      rotate_left
                      · simp only [Act.put, List.setIfInBounds_toArray, List.set_cons_zero, List.set_cons_succ, i64_w, i32_w]
                        rfl
                      refine pure_ (i := 8) (N := some 20) (v := ?_) (a' := ?_) #[true, true, true, true, true, true, true, true, true, false, false, false, false, false, false, false, false, false] rfl rfl (any_of HT_.out (by kernel_rfl)) (fun _ _ _ h => h) (Or.inl ⟨by rfl, ?_⟩) ?_ ?_
                      rotate_left
                      · intro w'
                        go_simp
                        with_reducible rfl
                      rotate_left
                      · simp only [Act.put, List.setIfInBounds_toArray, List.set_cons_zero, List.set_cons_succ, i64_w, i32_w]
                        rfl
                      refine pure_ (i := 9) (N := some 21) (v := ?_) (a' := ?_) #[true, true, true, true, true, true, true, true, true, true, false, false, false, false, false, false, false, false] rfl rfl (any_of HT_.out (by kernel_rfl)) (fun _ _ _ h => h) (Or.inl ⟨by rfl, ?_⟩) ?_ ?_
                      rotate_left
                      · intro w'
                        go_simp
                        with_reducible rfl
                      rotate_left
                      · simp only [Act.put, List.setIfInBounds_toArray, List.set_cons_zero, List.set_cons_succ, i64_w, i32_w]
                        rfl
                      refine pure_ (i := 10) (N := some 22) (v := ?_) (a' := ?_) #[true, true, true, true, true, true, true, true, true, true, true, false, false, false, false, false, false, false] rfl rfl (any_of HT_.out (by kernel_rfl)) (fun _ _ _ h => h) (Or.inl ⟨by rfl, ?_⟩) ?_ ?_
                      rotate_left
                      · intro w'
                        go_simp
                        with_reducible rfl
                      rotate_left
                      · simp only [Act.put, List.setIfInBounds_toArray, List.set_cons_zero, List.set_cons_succ, i64_w, i32_w]
                        rfl
                      refine pure_ (i := 11) (N := some 23) (v := ?_) (a' := ?_) #[true, true, true, true, true, true, true, true, true, true, true, true, false, false, false, false, false, false] rfl rfl (any_of HT_.out (by kernel_rfl)) (fun _ _ _ h => h) (Or.inl ⟨by rfl, ?_⟩) ?_ ?_
                      rotate_left
                      · intro w'
                        go_simp
                        with_reducible rfl
                      rotate_left
                      · simp only [Act.put, List.setIfInBounds_toArray, List.set_cons_zero, List.set_cons_succ, i64_w, i32_w]
                        rfl
                      refine pure_ (i := 13) (N := some 25) (v := ?_) (a' := ?_) #[true, true, true, true, true, true, true, true, true, true, true, true, false, true, false, false, false, false] rfl rfl (any_of HT_.out (by kernel_rfl)) (fun _ _ _ h => h) (Or.inl ⟨by rfl, ?_⟩) ?_ ?_
                      rotate_left
                      · intro w'
                        go_simp
                        with_reducible rfl
                      rotate_left
                      · simp only [Act.put, List.setIfInBounds_toArray, List.set_cons_zero, List.set_cons_succ, i64_w, i32_w]
                        rfl
                      refine take_ (i := 12) (N := some 24) (v := ?_) (a' := ?_) #[true, true, true, true, true, true, true, true, true, true, true, true, true, true, false, false, false, false] rfl rfl (take_ofW HT_.out HW_.out (by kernel_rfl)) (fun _ _ _ h => h) (Or.inl ⟨by rfl, ?_⟩) hHeld ?_ ?_
                      rotate_left
                      · rintro w' ⟨s0, s1, s2, s3, s4, s5, s6, s7⟩
                        go_simp
                        with_reducible rfl
                      rotate_left
                      · simp only [Act.put, List.setIfInBounds_toArray, List.set_cons_zero, List.set_cons_succ, i64_w, i32_w]
                        rfl
                      refine take_ (i := 14) (N := some 26) (v := ?_) (a' := ?_) #[true, true, true, true, true, true, true, true, true, true, true, true, true, true, true, false, false, false] rfl rfl (take_ofW HT_.out HW_.out (by kernel_rfl)) (fun _ _ _ h => h) (Or.inl ⟨by rfl, ?_⟩) hHeld ?_ ?_
                      rotate_left
                      · rintro w' ⟨s0, s1, s2, s3, s4, s5, s6, s7⟩
                        go_simp
                        with_reducible rfl
                      rotate_left
                      · simp only [Act.put, List.setIfInBounds_toArray, List.set_cons_zero, List.set_cons_succ, i64_w, i32_w]
                        rfl
                      refine pure_ (i := 15) (N := some 27) (v := ?_) (a' := ?_) #[true, true, true, true, true, true, true, true, true, true, true, true, true, true, true, true, false, false] rfl rfl (any_of HT_.out (by kernel_rfl)) (fun _ _ _ h => h) (Or.inl ⟨by rfl, ?_⟩) ?_ ?_
                      rotate_left
                      · intro w'
                        go_simp
                        with_reducible rfl
                      rotate_left
                      · simp only [Act.put, List.setIfInBounds_toArray, List.set_cons_zero, List.set_cons_succ, i64_w, i32_w]
                        rfl
                      refine pure_ (i := 16) (N := some 28) (v := ?_) (a' := ?_) #[true, true, true, true, true, true, true, true, true, true, true, true, true, true, true, true, true, false] rfl rfl (any_of HT_.out (by kernel_rfl)) (fun _ _ _ h => h) (Or.inl ⟨by rfl, ?_⟩) ?_ ?_
                      rotate_left
                      · intro w'
                        go_simp
                        with_reducible rfl
                      rotate_left
                      · simp only [Act.put, List.setIfInBounds_toArray, List.set_cons_zero, List.set_cons_succ, i64_w, i32_w]
                        rfl
                      refine pure_ (i := 17) (N := some 29) (v := ?_) (a' := ?_) #[true, true, true, true, true, true, true, true, true, true, true, true, true, true, true, true, true, true] rfl rfl (any_of HT_.out (by kernel_rfl)) (fun _ _ _ h => h) (Or.inl ⟨by rfl, ?_⟩) ?_ ?_
                      rotate_left
                      · intro w'
                        go_simp
                        with_reducible rfl
                      rotate_left
                      · simp only [Act.put, List.setIfInBounds_toArray, List.set_cons_zero, List.set_cons_succ, i64_w, i32_w]
                        rfl
                      refine done_ (done_of HT_.out (by kernel_rfl)) ?_
                      try go_wp2
                      go_ret
                      exact ⟨by first | rfl | (simp [errW_none, errW_some] <;> rfl) | (simp only [← hji8]; first | rfl | (simp [errW_none, errW_some] <;> rfl)) | (simp [*, errW_none, errW_some] <;> rfl), by repeat (first | (with_reducible first | exact HB.out | apply below_alloc | apply pw_below_drewN | apply below_drew1 | refine below_set ?_ GE117.out) | exact HB.out)⟩
                  · rw [if_neg c10] at H
                    exact absurd H (by simp)
                · rw [if_neg c9] at H
                  exact absurd H (by simp)
              · rw [if_neg c7] at H
                have c7b0 : decide (0 < x7_1) = false := decide_eq_false c7
                clear c7
                have H' := Aside0.mk H
                clear H
                have p116 : 0 ≤ (x7_1 : Int) := of_decide_eq_true (by first | (with_reducible assumption) | assumption)
                have q116 : x7_1 < (l0.length : Int) := of_decide_eq_true (by first | (with_reducible assumption) | assumption)
                obtain ⟨ad116, A116_3, c116_3, e116, hx116_0, hx116_1, hx116_2, hx116_3, hl116_3, hi116_3⟩ := at_T24 HR0.out x7_1 p116 q116
                cases e116
                replace hx116_0 := (HB.out.cell (World.block_lt_of_cell? w _ hx116_0)).trans hx116_0
                replace hx116_1 := (HB.out.cell (World.block_lt_of_cell? w _ hx116_1)).trans hx116_1
                replace hx116_2 := (HB.out.cell (World.block_lt_of_cell? w _ hx116_2)).trans hx116_2
                replace hx116_3 := (HB.out.cell (World.block_lt_of_cell? w _ hx116_3)).trans hx116_3
                have HR116_3 := Aside0.mk hi116_3
                have HC116_3 := Aside0.mk hl116_3
                clear hi116_3 hl116_3
                replace p116 := eq_true p116
                replace q116 := eq_true q116
                try go_wp2_with (first | ((with_reducible refine gate_dst (N := 4) rfl ?_); refine box_event ?hg (N := 4) ?hd (cs := #[.string (⟨#[]⟩ : ByteArray), .bool false, .int .i64 0, .slice none 0 0]) (t := 24) ?hr ?_; (case hd => rfl); (case hg => rfl); (case hr => first | (go_simp; done) | (go_simp; rfl)); intro gb117 hg w22 hbox hb; have n0_ := Aside0.mk (below_step (by repeat (first | (with_reducible first | exact HB.out | apply below_alloc | apply pw_below_drewN | apply below_drew1) | exact HB.out)) hb); have n1_ := Aside0.mk (hbox); have n2_ := Aside0.mk ((by rw [hg]; exact (below_size (by repeat (first | (with_reducible first | exact HB.out | apply below_alloc | apply pw_below_drewN | apply below_drew1) | exact HB.out))) : w.heap.size ≤ gb117)); have n3_ := Aside0.mk ((by rw [hg]; exact (below_size (by repeat (first | (with_reducible first | exact HB.out | apply below_alloc | apply pw_below_drewN | apply below_drew1) | exact HB.out))) : w.heap.size ≤ gb117)); clear HB; have HB := n0_; have BK117 := n1_; have GW117 := n2_; have GE117 := n3_; clear n0_ n1_ n2_ n3_; clear hb hbox hg; have hcz23_0 : w22.cell? ⟨gb117, 0, none⟩ = some (.string (⟨#[]⟩ : ByteArray)) := (blk_cell BK117.out 0).trans rfl; have hcz23_1 : w22.cell? ⟨gb117, 1, none⟩ = some (.bool false) := (blk_cell BK117.out 1).trans rfl; have hcz23_2 : w22.cell? ⟨gb117, 2, none⟩ = some (.int .i64 0) := (blk_cell BK117.out 2).trans rfl; have hcz23_3 : w22.cell? ⟨gb117, 3, none⟩ = some (.slice none 0 0) := (blk_cell BK117.out 3).trans rfl; have hfz23_0 := blk_frozen BK117.out 0; have hfz23_1 := blk_frozen BK117.out 1; have hfz23_2 := blk_frozen BK117.out 2; have hfz23_3 := blk_frozen BK117.out 3))
                have n0_ : Aside0 (((((w22.setCell ⟨gb117, 0, none⟩ (.string ((rd_T24 l0 x7_1).f0))).setCell ⟨gb117, 1, none⟩ (.bool ((rd_T24 l0 x7_1).f1))).setCell ⟨gb117, 2, none⟩ (.int .i64 ((rd_T24 l0 x7_1).f2))).setCell ⟨gb117, 3, none⟩ (.slice A116_3 ((rd_T24 l0 x7_1).f3).length c116_3)).heap[gb117]? = some (.cells #[.string ((rd_T24 l0 x7_1).f0), .bool ((rd_T24 l0 x7_1).f1), .int .i64 ((rd_T24 l0 x7_1).f2), .slice A116_3 ((rd_T24 l0 x7_1).f3).length c116_3] 24 (0, 0))) := ⟨by (with_reducible repeat (first | refine blk_drewN ?_ _ | refine blk_drew ?_ | refine blk_alloc ?_ _)); refine blk_put (cs := #[.string ((rd_T24 l0 x7_1).f0), .bool ((rd_T24 l0 x7_1).f1), .int .i64 ((rd_T24 l0 x7_1).f2), .slice none 0 0]) ?_ 3 _ rfl; (with_reducible repeat (first | refine blk_drewN ?_ _ | refine blk_drew ?_ | refine blk_alloc ?_ _)); refine blk_put (cs := #[.string ((rd_T24 l0 x7_1).f0), .bool ((rd_T24 l0 x7_1).f1), .int .i64 0, .slice none 0 0]) ?_ 2 _ rfl; (with_reducible repeat (first | refine blk_drewN ?_ _ | refine blk_drew ?_ | refine blk_alloc ?_ _)); refine blk_put (cs := #[.string ((rd_T24 l0 x7_1).f0), .bool false, .int .i64 0, .slice none 0 0]) ?_ 1 _ rfl; (with_reducible repeat (first | refine blk_drewN ?_ _ | refine blk_drew ?_ | refine blk_alloc ?_ _)); refine blk_put (cs := #[.string (⟨#[]⟩ : ByteArray), .bool false, .int .i64 0, .slice none 0 0]) ?_ 0 _ rfl; (with_reducible repeat (first | refine blk_drewN ?_ _ | refine blk_drew ?_ | refine blk_alloc ?_ _)); exact BK117.out⟩
                have n1_ : Aside0 (Below w.heap.size w ((((w22.setCell ⟨gb117, 0, none⟩ (.string ((rd_T24 l0 x7_1).f0))).setCell ⟨gb117, 1, none⟩ (.bool ((rd_T24 l0 x7_1).f1))).setCell ⟨gb117, 2, none⟩ (.int .i64 ((rd_T24 l0 x7_1).f2))).setCell ⟨gb117, 3, none⟩ (.slice A116_3 ((rd_T24 l0 x7_1).f3).length c116_3))) := ⟨by repeat (first | (with_reducible first | exact HB.out | apply below_alloc | apply pw_below_drewN | apply below_drew1 | refine below_set ?_ GE117.out) | exact HB.out)⟩
                (try clear BK117)
                (try clear HB)
                generalize ((((w22.setCell ⟨gb117, 0, none⟩ (.string ((rd_T24 l0 x7_1).f0))).setCell ⟨gb117, 1, none⟩ (.bool ((rd_T24 l0 x7_1).f1))).setCell ⟨gb117, 2, none⟩ (.int .i64 ((rd_T24 l0 x7_1).f2))).setCell ⟨gb117, 3, none⟩ (.slice A116_3 ((rd_T24 l0 x7_1).f3).length c116_3)) = w24 at n0_ n1_ ⊢
                have BK117 := n0_
                have HB := n1_
                clear n0_ n1_
                have n0_ := Aside0.mk (blk_drew BK117.out)
                have n1_ := Aside0.mk (below_drew1 HB.out)
                clear BK117
                clear HB
                have BK117 := n0_
                have HB := n1_
                clear n0_ n1_
                refine start_ (n := 18) (S := fun w' => w'.cell? ⟨gb117, 0, none⟩ = some (.string ((rd_T24 l0 x7_1).f0)) ∧ w'.cell? ⟨gb117, 1, none⟩ = some (.bool ((rd_T24 l0 x7_1).f1)) ∧ w'.cell? ⟨gb117, 2, none⟩ = some (.int .i64 ((rd_T24 l0 x7_1).f2)) ∧ w'.cell? ⟨gb117, 3, none⟩ = some (.slice A116_3 ((rd_T24 l0 x7_1).f3).length c116_3)) (ds := []) #[false, false, false, false, false, false, false, false, false, false, false, false, false, false, false, false, false, false] (by kernel_rfl) rfl rfl ⟨(blk_cell BK117.out 0).trans rfl, (blk_cell BK117.out 1).trans rfl, (blk_cell BK117.out 2).trans rfl, (blk_cell BK117.out 3).trans rfl⟩ (fun hHeld => ?_); refine with_tabW names_Right.tab4 names_Right.bits4 (fun HT_ HW_ => ?_)
                generalize w24.drew = w25 at BK117 HB hHeld ⊢
                refine take_ (i := 0) (N := some 12) (v := ?_) (a' := ?_) #[true, false, false, false, false, false, false, false, false, false, false, false, false, false, false, false, false, false] rfl rfl (take_ofW HT_.out HW_.out (by kernel_rfl)) (fun _ _ _ h => h) (Or.inl ⟨by rfl, ?_⟩) hHeld ?_ ?_
                rotate_left
                · rintro w' ⟨s0, s1, s2, s3⟩
                  go_simp
                  with_reducible rfl
                rotate_left
                · simp only [Act.put, List.setIfInBounds_toArray, List.set_cons_zero, List.set_cons_succ, i64_w, i32_w]
                  rfl
                refine one_ (i := 1) (N := some 13) #[true, true, false, false, false, false, false, false, false, false, false, false, false, false, false, false, false, false] rfl rfl (one_of HT_.out (by kernel_rfl)) (by decide) (fun K hK => ?_)
                refine goes_ Try.func11 (by kernel_rfl) rfl #[.agg #[.string ((rd_T24 l0 x7_1).f0), .bool ((rd_T24 l0 x7_1).f1), .int .i64 ((rd_T24 l0 x7_1).f2), .slice A116_3 ((rd_T24 l0 x7_1).f3).length c116_3]] (by rfl) rfl rfl (by (try simp only [List.map_toArray, List.map_cons, List.map_nil]); first | done | rfl | (simp only [List.length_drop, List.length_take]; rfl)) ?_
                with_reducible refine (names_Check.calls k1 ((rd_T24 l0 x7_1).f0) ((rd_T24 l0 x7_1).f1) ((rd_T24 l0 x7_1).f2) _ _ ((rd_T24 l0 x7_1).f3) t118 _ ?side1 ?side2 A5.out).mono ?_
                (case side1 => repeat (first | exact (Kd.C_below HR116_3.out HB.out) | (with_reducible refine Kd.C_alloc ?_ _) | (with_reducible refine Kd.C_drewN ?_ _) | (with_reducible refine Kd.C_drew ?_)))
                (case side2 => exact HC116_3.out)
                rintro e w26 ⟨rfl, hb⟩
                refine ⟨_, rfl, ?_⟩
                have n0_ := Aside0.mk (blk_below (g := gb117) (o := .cells #[.string ((rd_T24 l0 x7_1).f0), .bool ((rd_T24 l0 x7_1).f1), .int .i64 ((rd_T24 l0 x7_1).f2), .slice A116_3 ((rd_T24 l0 x7_1).f3).length c116_3] 24 (0, 0)) (by (with_reducible repeat (first | refine blk_drewN ?_ _ | refine blk_drew ?_ | refine blk_alloc ?_ _)); exact BK117.out) hb)
                have n1_ := Aside0.mk (below_step (by repeat (first | (with_reducible first | exact HB.out | apply below_alloc | apply pw_below_drewN | apply below_drew1 | refine below_set ?_ GE117.out) | exact HB.out)) hb)
                clear BK117
                clear HB
                have BK117 := n0_
                have HB := n1_
                clear n0_ n1_
                (try clear hb)
                (try clear hb2)
                (try clear hk)
                (try clear hi)
                refine hK.out _ _ ⟨(blk_cell BK117.out 0).trans rfl, (blk_cell BK117.out 1).trans rfl, (blk_cell BK117.out 2).trans rfl, (blk_cell BK117.out 3).trans rfl⟩ (fun hHeld => ?_)
                clear hK K
                refine norm_ (a' := ?_) ?_ ?_
                rotate_left
                · show Act.put _ (some 13) _ = _
                  simp only [Act.put, List.setIfInBounds_toArray, List.set_cons_zero, List.set_cons_succ, i64_w, i32_w]
                  rfl
                refine pure_ (i := 2) (N := some 14) (v := ?_) (a' := ?_) #[true, true, true, false, false, false, false, false, false, false, false, false, false, false, false, false, false, false] rfl rfl (any_of HT_.out (by kernel_rfl)) (fun _ _ _ h => h) (Or.inl ⟨by rfl, ?_⟩) ?_ ?_
                rotate_left
                · intro w'
                  go_simp
                  with_reducible rfl
                rotate_left
                · simp only [Act.put, List.setIfInBounds_toArray, List.set_cons_zero, List.set_cons_succ, i64_w, i32_w]
                  rfl
                refine pure_ (i := 3) (N := some 15) (v := ?_) (a' := ?_) #[true, true, true, true, false, false, false, false, false, false, false, false, false, false, false, false, false, false] rfl rfl (any_of HT_.out (by kernel_rfl)) (fun _ _ _ h => h) (Or.inl ⟨by rfl, ?_⟩) ?_ ?_
                rotate_left
                · intro w'
                  go_simp
                  with_reducible rfl
                rotate_left
                · simp only [Act.put, List.setIfInBounds_toArray, List.set_cons_zero, List.set_cons_succ, i64_w, i32_w]
                  rfl
                refine pure_ (i := 4) (N := some 16) (v := ?_) (a' := ?_) #[true, true, true, true, true, false, false, false, false, false, false, false, false, false, false, false, false, false] rfl rfl (any_of HT_.out (by kernel_rfl)) (fun _ _ _ h => h) (Or.inl ⟨by rfl, ?_⟩) ?_ ?_
                rotate_left
                · intro w'
                  go_simp
                  with_reducible rfl
                rotate_left
                · simp only [Act.put, List.setIfInBounds_toArray, List.set_cons_zero, List.set_cons_succ, i64_w, i32_w]
                  rfl
                refine pure_ (i := 5) (N := some 17) (v := ?_) (a' := ?_) #[true, true, true, true, true, true, false, false, false, false, false, false, false, false, false, false, false, false] rfl rfl (any_of HT_.out (by kernel_rfl)) (fun _ _ _ h => h) (Or.inl ⟨by rfl, ?_⟩) ?_ ?_
                rotate_left
                · intro w'
                  go_simp
                  with_reducible rfl
                rotate_left
                · simp only [Act.put, List.setIfInBounds_toArray, List.set_cons_zero, List.set_cons_succ, i64_w, i32_w]
                  rfl
                refine pure_ (i := 6) (N := some 18) (v := ?_) (a' := ?_) #[true, true, true, true, true, true, true, false, false, false, false, false, false, false, false, false, false, false] rfl rfl (any_of HT_.out (by kernel_rfl)) (fun _ _ _ h => h) (Or.inl ⟨by rfl, ?_⟩) ?_ ?_
                rotate_left
                · intro w'
                  go_simp
                  with_reducible rfl
                rotate_left
                · simp only [Act.put, List.setIfInBounds_toArray, List.set_cons_zero, List.set_cons_succ, i64_w, i32_w]
                  rfl
                refine pure_ (i := 7) (N := some 19) (v := undef) (a' := ?_) #[true, true, true, true, true, true, true, true, false, false, false, false, false, false, false, false, false, false] rfl rfl (any_of HT_.out (by kernel_rfl)) (fun _ _ _ h => h) (Or.inr ⟨by rfl, rfl⟩) ?_ ?_
                rotate_left
                · simp only [Act.put, List.setIfInBounds_toArray, List.set_cons_zero, List.set_cons_succ, i64_w, i32_w]
                  rfl
                refine pure_ (i := 8) (N := some 20) (v := undef) (a' := ?_) #[true, true, true, true, true, true, true, true, true, false, false, false, false, false, false, false, false, false] rfl rfl (any_of HT_.out (by kernel_rfl)) (fun _ _ _ h => h) (Or.inr ⟨by rfl, rfl⟩) ?_ ?_
                rotate_left
                · simp only [Act.put, List.setIfInBounds_toArray, List.set_cons_zero, List.set_cons_succ, i64_w, i32_w]
                  rfl
                refine pure_ (i := 9) (N := some 21) (v := undef) (a' := ?_) #[true, true, true, true, true, true, true, true, true, true, false, false, false, false, false, false, false, false] rfl rfl (any_of HT_.out (by kernel_rfl)) (fun _ _ _ h => h) (Or.inr ⟨by rfl, rfl⟩) ?_ ?_
                rotate_left
                · simp only [Act.put, List.setIfInBounds_toArray, List.set_cons_zero, List.set_cons_succ, i64_w, i32_w]
                  rfl
                refine pure_ (i := 10) (N := some 22) (v := undef) (a' := ?_) #[true, true, true, true, true, true, true, true, true, true, true, false, false, false, false, false, false, false] rfl rfl (any_of HT_.out (by kernel_rfl)) (fun _ _ _ h => h) (Or.inr ⟨by rfl, rfl⟩) ?_ ?_
                rotate_left
                · simp only [Act.put, List.setIfInBounds_toArray, List.set_cons_zero, List.set_cons_succ, i64_w, i32_w]
                  rfl
                refine pure_ (i := 11) (N := some 23) (v := undef) (a' := ?_) #[true, true, true, true, true, true, true, true, true, true, true, true, false, false, false, false, false, false] rfl rfl (any_of HT_.out (by kernel_rfl)) (fun _ _ _ h => h) (Or.inr ⟨by rfl, rfl⟩) ?_ ?_
                rotate_left
                · simp only [Act.put, List.setIfInBounds_toArray, List.set_cons_zero, List.set_cons_succ, i64_w, i32_w]
                  rfl
                refine pure_ (i := 12) (N := some 24) (v := undef) (a' := ?_) #[true, true, true, true, true, true, true, true, true, true, true, true, true, false, false, false, false, false] rfl rfl (any_of HT_.out (by kernel_rfl)) (fun _ _ _ h => h) (Or.inr ⟨by rfl, rfl⟩) ?_ ?_
                rotate_left
                · simp only [Act.put, List.setIfInBounds_toArray, List.set_cons_zero, List.set_cons_succ, i64_w, i32_w]
                  rfl
                refine pure_ (i := 13) (N := some 25) (v := undef) (a' := ?_) #[true, true, true, true, true, true, true, true, true, true, true, true, true, true, false, false, false, false] rfl rfl (any_of HT_.out (by kernel_rfl)) (fun _ _ _ h => h) (Or.inr ⟨by rfl, rfl⟩) ?_ ?_
                rotate_left
                · simp only [Act.put, List.setIfInBounds_toArray, List.set_cons_zero, List.set_cons_succ, i64_w, i32_w]
                  rfl
                refine pure_ (i := 14) (N := some 26) (v := undef) (a' := ?_) #[true, true, true, true, true, true, true, true, true, true, true, true, true, true, true, false, false, false] rfl rfl (any_of HT_.out (by kernel_rfl)) (fun _ _ _ h => h) (Or.inr ⟨by rfl, rfl⟩) ?_ ?_
                rotate_left
                · simp only [Act.put, List.setIfInBounds_toArray, List.set_cons_zero, List.set_cons_succ, i64_w, i32_w]
                  rfl
                refine pure_ (i := 15) (N := some 27) (v := undef) (a' := ?_) #[true, true, true, true, true, true, true, true, true, true, true, true, true, true, true, true, false, false] rfl rfl (any_of HT_.out (by kernel_rfl)) (fun _ _ _ h => h) (Or.inr ⟨by rfl, rfl⟩) ?_ ?_
                rotate_left
                · simp only [Act.put, List.setIfInBounds_toArray, List.set_cons_zero, List.set_cons_succ, i64_w, i32_w]
                  rfl
                refine pure_ (i := 16) (N := some 28) (v := ?_) (a' := ?_) #[true, true, true, true, true, true, true, true, true, true, true, true, true, true, true, true, true, false] rfl rfl (any_of HT_.out (by kernel_rfl)) (fun _ _ _ h => h) (Or.inl ⟨by rfl, ?_⟩) ?_ ?_
                rotate_left
                · intro w'
                  go_simp
                  with_reducible rfl
                rotate_left
                · simp only [Act.put, List.setIfInBounds_toArray, List.set_cons_zero, List.set_cons_succ, i64_w, i32_w]
                  rfl
                refine pure_ (i := 17) (N := some 29) (v := ?_) (a' := ?_) #[true, true, true, true, true, true, true, true, true, true, true, true, true, true, true, true, true, true] rfl rfl (any_of HT_.out (by kernel_rfl)) (fun _ _ _ h => h) (Or.inl ⟨by rfl, ?_⟩) ?_ ?_
                rotate_left
                · intro w'
                  go_simp
                  with_reducible rfl
                rotate_left
                · simp only [Act.put, List.setIfInBounds_toArray, List.set_cons_zero, List.set_cons_succ, i64_w, i32_w]
                  rfl
                refine done_ (done_of HT_.out (by kernel_rfl)) ?_
                try go_wp2
                go_roundg k1
                case measure => have := HK1.out; omega
                case rel => exact ⟨(wrap64 (x7_1 + 1)), (by first | rfl | (simp; done) | (simp [*]; done)), H', ⟨by have := HK1.out; omega⟩, ⟨by repeat (first | (with_reducible first | exact HB.out | apply below_alloc | apply pw_below_drewN | apply below_drew1 | refine below_set ?_ GE117.out) | exact HB.out)⟩⟩
            · rw [if_neg c6] at H
              have c6b0 : (t118 == 0) = false := beq_eq_false_iff_ne.mpr c6
              have c6b1 : (t118 != 0) = true := bne_iff_ne.mpr c6
              obtain rfl := Option.some.inj H
              have p116 : 0 ≤ (x7_1 : Int) := of_decide_eq_true (by first | (with_reducible assumption) | assumption)
              have q116 : x7_1 < (l0.length : Int) := of_decide_eq_true (by first | (with_reducible assumption) | assumption)
              obtain ⟨ad116, A116_3, c116_3, e116, hx116_0, hx116_1, hx116_2, hx116_3, hl116_3, hi116_3⟩ := at_T24 HR0.out x7_1 p116 q116
              cases e116
              replace hx116_0 := (HB.out.cell (World.block_lt_of_cell? w _ hx116_0)).trans hx116_0
              replace hx116_1 := (HB.out.cell (World.block_lt_of_cell? w _ hx116_1)).trans hx116_1
              replace hx116_2 := (HB.out.cell (World.block_lt_of_cell? w _ hx116_2)).trans hx116_2
              replace hx116_3 := (HB.out.cell (World.block_lt_of_cell? w _ hx116_3)).trans hx116_3
              have HR116_3 := Aside0.mk hi116_3
              have HC116_3 := Aside0.mk hl116_3
              clear hi116_3 hl116_3
              replace p116 := eq_true p116
              replace q116 := eq_true q116
              try go_wp2_with (first | ((with_reducible refine gate_dst (N := 4) rfl ?_); refine box_event ?hg (N := 4) ?hd (cs := #[.string (⟨#[]⟩ : ByteArray), .bool false, .int .i64 0, .slice none 0 0]) (t := 24) ?hr ?_; (case hd => rfl); (case hg => rfl); (case hr => first | (go_simp; done) | (go_simp; rfl)); intro gb117 hg w27 hbox hb; have n0_ := Aside0.mk (below_step (by repeat (first | (with_reducible first | exact HB.out | apply below_alloc | apply pw_below_drewN | apply below_drew1) | exact HB.out)) hb); have n1_ := Aside0.mk (hbox); have n2_ := Aside0.mk ((by rw [hg]; exact (below_size (by repeat (first | (with_reducible first | exact HB.out | apply below_alloc | apply pw_below_drewN | apply below_drew1) | exact HB.out))) : w.heap.size ≤ gb117)); have n3_ := Aside0.mk ((by rw [hg]; exact (below_size (by repeat (first | (with_reducible first | exact HB.out | apply below_alloc | apply pw_below_drewN | apply below_drew1) | exact HB.out))) : w.heap.size ≤ gb117)); clear HB; have HB := n0_; have BK117 := n1_; have GW117 := n2_; have GE117 := n3_; clear n0_ n1_ n2_ n3_; clear hb hbox hg; have hcz28_0 : w27.cell? ⟨gb117, 0, none⟩ = some (.string (⟨#[]⟩ : ByteArray)) := (blk_cell BK117.out 0).trans rfl; have hcz28_1 : w27.cell? ⟨gb117, 1, none⟩ = some (.bool false) := (blk_cell BK117.out 1).trans rfl; have hcz28_2 : w27.cell? ⟨gb117, 2, none⟩ = some (.int .i64 0) := (blk_cell BK117.out 2).trans rfl; have hcz28_3 : w27.cell? ⟨gb117, 3, none⟩ = some (.slice none 0 0) := (blk_cell BK117.out 3).trans rfl; have hfz28_0 := blk_frozen BK117.out 0; have hfz28_1 := blk_frozen BK117.out 1; have hfz28_2 := blk_frozen BK117.out 2; have hfz28_3 := blk_frozen BK117.out 3))
              have n0_ : Aside0 (((((w27.setCell ⟨gb117, 0, none⟩ (.string ((rd_T24 l0 x7_1).f0))).setCell ⟨gb117, 1, none⟩ (.bool ((rd_T24 l0 x7_1).f1))).setCell ⟨gb117, 2, none⟩ (.int .i64 ((rd_T24 l0 x7_1).f2))).setCell ⟨gb117, 3, none⟩ (.slice A116_3 ((rd_T24 l0 x7_1).f3).length c116_3)).heap[gb117]? = some (.cells #[.string ((rd_T24 l0 x7_1).f0), .bool ((rd_T24 l0 x7_1).f1), .int .i64 ((rd_T24 l0 x7_1).f2), .slice A116_3 ((rd_T24 l0 x7_1).f3).length c116_3] 24 (0, 0))) := ⟨by (with_reducible repeat (first | refine blk_drewN ?_ _ | refine blk_drew ?_ | refine blk_alloc ?_ _)); refine blk_put (cs := #[.string ((rd_T24 l0 x7_1).f0), .bool ((rd_T24 l0 x7_1).f1), .int .i64 ((rd_T24 l0 x7_1).f2), .slice none 0 0]) ?_ 3 _ rfl; (with_reducible repeat (first | refine blk_drewN ?_ _ | refine blk_drew ?_ | refine blk_alloc ?_ _)); refine blk_put (cs := #[.string ((rd_T24 l0 x7_1).f0), .bool ((rd_T24 l0 x7_1).f1), .int .i64 0, .slice none 0 0]) ?_ 2 _ rfl; (with_reducible repeat (first | refine blk_drewN ?_ _ | refine blk_drew ?_ | refine blk_alloc ?_ _)); refine blk_put (cs := #[.string ((rd_T24 l0 x7_1).f0), .bool false, .int .i64 0, .slice none 0 0]) ?_ 1 _ rfl; (with_reducible repeat (first | refine blk_drewN ?_ _ | refine blk_drew ?_ | refine blk_alloc ?_ _)); refine blk_put (cs := #[.string (⟨#[]⟩ : ByteArray), .bool false, .int .i64 0, .slice none 0 0]) ?_ 0 _ rfl; (with_reducible repeat (first | refine blk_drewN ?_ _ | refine blk_drew ?_ | refine blk_alloc ?_ _)); exact BK117.out⟩
              have n1_ : Aside0 (Below w.heap.size w ((((w27.setCell ⟨gb117, 0, none⟩ (.string ((rd_T24 l0 x7_1).f0))).setCell ⟨gb117, 1, none⟩ (.bool ((rd_T24 l0 x7_1).f1))).setCell ⟨gb117, 2, none⟩ (.int .i64 ((rd_T24 l0 x7_1).f2))).setCell ⟨gb117, 3, none⟩ (.slice A116_3 ((rd_T24 l0 x7_1).f3).length c116_3))) := ⟨by repeat (first | (with_reducible first | exact HB.out | apply below_alloc | apply pw_below_drewN | apply below_drew1 | refine below_set ?_ GE117.out) | exact HB.out)⟩
              (try clear BK117)
              (try clear HB)
              generalize ((((w27.setCell ⟨gb117, 0, none⟩ (.string ((rd_T24 l0 x7_1).f0))).setCell ⟨gb117, 1, none⟩ (.bool ((rd_T24 l0 x7_1).f1))).setCell ⟨gb117, 2, none⟩ (.int .i64 ((rd_T24 l0 x7_1).f2))).setCell ⟨gb117, 3, none⟩ (.slice A116_3 ((rd_T24 l0 x7_1).f3).length c116_3)) = w29 at n0_ n1_ ⊢
              have BK117 := n0_
              have HB := n1_
              clear n0_ n1_
              have n0_ := Aside0.mk (blk_drew BK117.out)
              have n1_ := Aside0.mk (below_drew1 HB.out)
              clear BK117
              clear HB
              have BK117 := n0_
              have HB := n1_
              clear n0_ n1_
              refine start_ (n := 18) (S := fun w' => w'.cell? ⟨gb117, 0, none⟩ = some (.string ((rd_T24 l0 x7_1).f0)) ∧ w'.cell? ⟨gb117, 1, none⟩ = some (.bool ((rd_T24 l0 x7_1).f1)) ∧ w'.cell? ⟨gb117, 2, none⟩ = some (.int .i64 ((rd_T24 l0 x7_1).f2)) ∧ w'.cell? ⟨gb117, 3, none⟩ = some (.slice A116_3 ((rd_T24 l0 x7_1).f3).length c116_3)) (ds := []) #[false, false, false, false, false, false, false, false, false, false, false, false, false, false, false, false, false, false] (by kernel_rfl) rfl rfl ⟨(blk_cell BK117.out 0).trans rfl, (blk_cell BK117.out 1).trans rfl, (blk_cell BK117.out 2).trans rfl, (blk_cell BK117.out 3).trans rfl⟩ (fun hHeld => ?_); refine with_tabW names_Right.tab4 names_Right.bits4 (fun HT_ HW_ => ?_)
              generalize w29.drew = w30 at BK117 HB hHeld ⊢
              refine take_ (i := 0) (N := some 12) (v := ?_) (a' := ?_) #[true, false, false, false, false, false, false, false, false, false, false, false, false, false, false, false, false, false] rfl rfl (take_ofW HT_.out HW_.out (by kernel_rfl)) (fun _ _ _ h => h) (Or.inl ⟨by rfl, ?_⟩) hHeld ?_ ?_
              rotate_left
              · rintro w' ⟨s0, s1, s2, s3⟩
                go_simp
                with_reducible rfl
              rotate_left
              · simp only [Act.put, List.setIfInBounds_toArray, List.set_cons_zero, List.set_cons_succ, i64_w, i32_w]
                rfl
              refine one_ (i := 1) (N := some 13) #[true, true, false, false, false, false, false, false, false, false, false, false, false, false, false, false, false, false] rfl rfl (one_of HT_.out (by kernel_rfl)) (by decide) (fun K hK => ?_)
              refine goes_ Try.func11 (by kernel_rfl) rfl #[.agg #[.string ((rd_T24 l0 x7_1).f0), .bool ((rd_T24 l0 x7_1).f1), .int .i64 ((rd_T24 l0 x7_1).f2), .slice A116_3 ((rd_T24 l0 x7_1).f3).length c116_3]] (by rfl) rfl rfl (by (try simp only [List.map_toArray, List.map_cons, List.map_nil]); first | done | rfl | (simp only [List.length_drop, List.length_take]; rfl)) ?_
              with_reducible refine (names_Check.calls k1 ((rd_T24 l0 x7_1).f0) ((rd_T24 l0 x7_1).f1) ((rd_T24 l0 x7_1).f2) _ _ ((rd_T24 l0 x7_1).f3) t118 _ ?side1 ?side2 A5.out).mono ?_
              (case side1 => repeat (first | exact (Kd.C_below HR116_3.out HB.out) | (with_reducible refine Kd.C_alloc ?_ _) | (with_reducible refine Kd.C_drewN ?_ _) | (with_reducible refine Kd.C_drew ?_)))
              (case side2 => exact HC116_3.out)
              rintro e w31 ⟨rfl, hb⟩
              refine ⟨_, rfl, ?_⟩
              have n0_ := Aside0.mk (blk_below (g := gb117) (o := .cells #[.string ((rd_T24 l0 x7_1).f0), .bool ((rd_T24 l0 x7_1).f1), .int .i64 ((rd_T24 l0 x7_1).f2), .slice A116_3 ((rd_T24 l0 x7_1).f3).length c116_3] 24 (0, 0)) (by (with_reducible repeat (first | refine blk_drewN ?_ _ | refine blk_drew ?_ | refine blk_alloc ?_ _)); exact BK117.out) hb)
              have n1_ := Aside0.mk (below_step (by repeat (first | (with_reducible first | exact HB.out | apply below_alloc | apply pw_below_drewN | apply below_drew1 | refine below_set ?_ GE117.out) | exact HB.out)) hb)
              clear BK117
              clear HB
              have BK117 := n0_
              have HB := n1_
              clear n0_ n1_
              (try clear hb)
              (try clear hb2)
              (try clear hk)
              (try clear hi)
              refine hK.out _ _ ⟨(blk_cell BK117.out 0).trans rfl, (blk_cell BK117.out 1).trans rfl, (blk_cell BK117.out 2).trans rfl, (blk_cell BK117.out 3).trans rfl⟩ (fun hHeld => ?_)
              clear hK K
              refine norm_ (a' := ?_) ?_ ?_
              rotate_left
              · show Act.put _ (some 13) _ = _
                simp only [Act.put, List.setIfInBounds_toArray, List.set_cons_zero, List.set_cons_succ, i64_w, i32_w]
                rfl
              refine pure_ (i := 2) (N := some 14) (v := ?_) (a' := ?_) #[true, true, true, false, false, false, false, false, false, false, false, false, false, false, false, false, false, false] rfl rfl (any_of HT_.out (by kernel_rfl)) (fun _ _ _ h => h) (Or.inl ⟨by rfl, ?_⟩) ?_ ?_
              rotate_left
              · intro w'
                go_simp
                with_reducible rfl
              rotate_left
              · simp only [Act.put, List.setIfInBounds_toArray, List.set_cons_zero, List.set_cons_succ, i64_w, i32_w]
                rfl
              refine pure_ (i := 3) (N := some 15) (v := ?_) (a' := ?_) #[true, true, true, true, false, false, false, false, false, false, false, false, false, false, false, false, false, false] rfl rfl (any_of HT_.out (by kernel_rfl)) (fun _ _ _ h => h) (Or.inl ⟨by rfl, ?_⟩) ?_ ?_
              rotate_left
              · intro w'
                go_simp
                with_reducible rfl
              rotate_left
              · simp only [Act.put, List.setIfInBounds_toArray, List.set_cons_zero, List.set_cons_succ, i64_w, i32_w]
                rfl
              refine pure_ (i := 4) (N := some 16) (v := undef) (a' := ?_) #[true, true, true, true, true, false, false, false, false, false, false, false, false, false, false, false, false, false] rfl rfl (any_of HT_.out (by kernel_rfl)) (fun _ _ _ h => h) (Or.inr ⟨by rfl, rfl⟩) ?_ ?_
              rotate_left
              · simp only [Act.put, List.setIfInBounds_toArray, List.set_cons_zero, List.set_cons_succ, i64_w, i32_w]
                rfl
              refine pure_ (i := 5) (N := some 17) (v := undef) (a' := ?_) #[true, true, true, true, true, true, false, false, false, false, false, false, false, false, false, false, false, false] rfl rfl (any_of HT_.out (by kernel_rfl)) (fun _ _ _ h => h) (Or.inr ⟨by rfl, rfl⟩) ?_ ?_
              rotate_left
              · simp only [Act.put, List.setIfInBounds_toArray, List.set_cons_zero, List.set_cons_succ, i64_w, i32_w]
                rfl
              refine pure_ (i := 6) (N := some 18) (v := undef) (a' := ?_) #[true, true, true, true, true, true, true, false, false, false, false, false, false, false, false, false, false, false] rfl rfl (any_of HT_.out (by kernel_rfl)) (fun _ _ _ h => h) (Or.inr ⟨by rfl, rfl⟩) ?_ ?_
              rotate_left
              · simp only [Act.put, List.setIfInBounds_toArray, List.set_cons_zero, List.set_cons_succ, i64_w, i32_w]
                rfl
              refine pure_ (i := 7) (N := some 19) (v := undef) (a' := ?_) #[true, true, true, true, true, true, true, true, false, false, false, false, false, false, false, false, false, false] rfl rfl (any_of HT_.out (by kernel_rfl)) (fun _ _ _ h => h) (Or.inr ⟨by rfl, rfl⟩) ?_ ?_
              rotate_left
              · simp only [Act.put, List.setIfInBounds_toArray, List.set_cons_zero, List.set_cons_succ, i64_w, i32_w]
                rfl
              refine pure_ (i := 8) (N := some 20) (v := undef) (a' := ?_) #[true, true, true, true, true, true, true, true, true, false, false, false, false, false, false, false, false, false] rfl rfl (any_of HT_.out (by kernel_rfl)) (fun _ _ _ h => h) (Or.inr ⟨by rfl, rfl⟩) ?_ ?_
              rotate_left
              · simp only [Act.put, List.setIfInBounds_toArray, List.set_cons_zero, List.set_cons_succ, i64_w, i32_w]
                rfl
              refine pure_ (i := 9) (N := some 21) (v := undef) (a' := ?_) #[true, true, true, true, true, true, true, true, true, true, false, false, false, false, false, false, false, false] rfl rfl (any_of HT_.out (by kernel_rfl)) (fun _ _ _ h => h) (Or.inr ⟨by rfl, rfl⟩) ?_ ?_
              rotate_left
              · simp only [Act.put, List.setIfInBounds_toArray, List.set_cons_zero, List.set_cons_succ, i64_w, i32_w]
                rfl
              refine pure_ (i := 10) (N := some 22) (v := undef) (a' := ?_) #[true, true, true, true, true, true, true, true, true, true, true, false, false, false, false, false, false, false] rfl rfl (any_of HT_.out (by kernel_rfl)) (fun _ _ _ h => h) (Or.inr ⟨by rfl, rfl⟩) ?_ ?_
              rotate_left
              · simp only [Act.put, List.setIfInBounds_toArray, List.set_cons_zero, List.set_cons_succ, i64_w, i32_w]
                rfl
              refine pure_ (i := 11) (N := some 23) (v := undef) (a' := ?_) #[true, true, true, true, true, true, true, true, true, true, true, true, false, false, false, false, false, false] rfl rfl (any_of HT_.out (by kernel_rfl)) (fun _ _ _ h => h) (Or.inr ⟨by rfl, rfl⟩) ?_ ?_
              rotate_left
              · simp only [Act.put, List.setIfInBounds_toArray, List.set_cons_zero, List.set_cons_succ, i64_w, i32_w]
                rfl
              refine pure_ (i := 12) (N := some 24) (v := undef) (a' := ?_) #[true, true, true, true, true, true, true, true, true, true, true, true, true, false, false, false, false, false] rfl rfl (any_of HT_.out (by kernel_rfl)) (fun _ _ _ h => h) (Or.inr ⟨by rfl, rfl⟩) ?_ ?_
              rotate_left
              · simp only [Act.put, List.setIfInBounds_toArray, List.set_cons_zero, List.set_cons_succ, i64_w, i32_w]
                rfl
              refine pure_ (i := 13) (N := some 25) (v := undef) (a' := ?_) #[true, true, true, true, true, true, true, true, true, true, true, true, true, true, false, false, false, false] rfl rfl (any_of HT_.out (by kernel_rfl)) (fun _ _ _ h => h) (Or.inr ⟨by rfl, rfl⟩) ?_ ?_
              rotate_left
              · simp only [Act.put, List.setIfInBounds_toArray, List.set_cons_zero, List.set_cons_succ, i64_w, i32_w]
                rfl
              refine pure_ (i := 14) (N := some 26) (v := undef) (a' := ?_) #[true, true, true, true, true, true, true, true, true, true, true, true, true, true, true, false, false, false] rfl rfl (any_of HT_.out (by kernel_rfl)) (fun _ _ _ h => h) (Or.inr ⟨by rfl, rfl⟩) ?_ ?_
              rotate_left
              · simp only [Act.put, List.setIfInBounds_toArray, List.set_cons_zero, List.set_cons_succ, i64_w, i32_w]
                rfl
              refine pure_ (i := 15) (N := some 27) (v := undef) (a' := ?_) #[true, true, true, true, true, true, true, true, true, true, true, true, true, true, true, true, false, false] rfl rfl (any_of HT_.out (by kernel_rfl)) (fun _ _ _ h => h) (Or.inr ⟨by rfl, rfl⟩) ?_ ?_
              rotate_left
              · simp only [Act.put, List.setIfInBounds_toArray, List.set_cons_zero, List.set_cons_succ, i64_w, i32_w]
                rfl
              refine pure_ (i := 16) (N := some 28) (v := undef) (a' := ?_) #[true, true, true, true, true, true, true, true, true, true, true, true, true, true, true, true, true, false] rfl rfl (any_of HT_.out (by kernel_rfl)) (fun _ _ _ h => h) (Or.inr ⟨by rfl, rfl⟩) ?_ ?_
              rotate_left
              · simp only [Act.put, List.setIfInBounds_toArray, List.set_cons_zero, List.set_cons_succ, i64_w, i32_w]
                rfl
              refine pure_ (i := 17) (N := some 29) (v := ?_) (a' := ?_) #[true, true, true, true, true, true, true, true, true, true, true, true, true, true, true, true, true, true] rfl rfl (any_of HT_.out (by kernel_rfl)) (fun _ _ _ h => h) (Or.inl ⟨by rfl, ?_⟩) ?_ ?_
              rotate_left
              · intro w'
                go_simp
                with_reducible rfl
              rotate_left
              · simp only [Act.put, List.setIfInBounds_toArray, List.set_cons_zero, List.set_cons_succ, i64_w, i32_w]
                rfl
              refine done_ (done_of HT_.out (by kernel_rfl)) ?_
              try go_wp2
              go_ret
              exact ⟨by first | rfl | (simp [errW_none, errW_some] <;> rfl) | (simp [*, errW_none, errW_some] <;> rfl), by repeat (first | (with_reducible first | exact HB.out | apply below_alloc | apply pw_below_drewN | apply below_drew1 | refine below_set ?_ GE117.out) | exact HB.out)⟩
          · rw [if_neg c4] at H
            exact absurd H (by simp)
        · rw [if_neg c3] at H
          exact absurd H (by simp)
      · rw [if_neg c2] at H
        have c2b0 : decide (x7_1 < (l0.length : Int)) = false := decide_eq_false c2
        clear c2
        obtain rfl := Option.some.inj H
        go_wp2
        go_ret
        exact ⟨by first | rfl | (simp [errW_none, errW_some] <;> rfl) | (simp [*, errW_none, errW_some] <;> rfl), by repeat (first | (with_reducible first | exact HB.out | apply below_alloc | apply pw_below_drewN | apply below_drew1) | exact HB.out)⟩
end Go.Proofs.Ytlglbpjccpdloaa.PNamA
set_option linter.unusedVariables false
set_option linter.unusedSimpArgs false
namespace Go.Proofs.Ytlglbpjccpdloaa.Ext
open Go.RowKit Go.Proofs.Ytlglbpjccpdloaa.PNamA Go.Proofs.Ytlglbpjccpdloaa.Tox Go.Proofs.Ytlglbpjccpdloaa.ToxZ Go.Proofs.YtlglbpjccpdloaaW.PrintWords Go.Proofs.YtlglbpjccpdloaaW.PrintLast
def ckT (t : S39) : Int := checkOf t.f0 t.f1 t.f2 t.f3 t.f4 t.f5
def firstBad : List S39 → Int
  | [] => 0
  | t :: r => if ckT t = 0 then firstBad r else ckT t
def dupR (ns : List ByteArray) : List ByteArray → Nat → Bool
  | [], _ => false
  | x :: r, i => if place ns x = (i : Int) then dupR ns r (i + 1) else true
def namesT (l : List S39) : List ByteArray := l.map (·.f0)
def namesP (l : List S24) : List ByteArray := l.map (·.f0)
def toxOk (l : List S39) : Int := if firstBad l = 0 then (if dupR (namesT l) (namesT l) 0 then 141 else 0) else firstBad l
def chkP (x : S24) : Int := if nameOk x.f0 then (if 1 ≤ x.f2 ∧ x.f2 ≤ 16 then (if x.f3.length > 8 then 143 else toxOk x.f3) else 144) else 140
def ltS (a b : ByteArray) : Bool := Op.bytesLess a.toList b.toList
def sortedFrom : ByteArray → List ByteArray → Bool
  | _, [] => true
  | p, x :: r => ltS p x && sortedFrom x r
def sortedB : List ByteArray → Bool
  | [] => true
  | x :: r => sortedFrom x r
def rightB (l : List S24) : Bool := l.all (fun x => chkP x == 0) && sortedB (namesP l) && decide (l.length ≤ 8)
theorem w64_in' (x : Int) (h : -9223372036854775808 ≤ x) (h2 : x ≤ 9223372036854775807) : wrap64 x = x := by unfold wrap64; omega
theorem rdT_at (l : List S39) (i : Nat) (h : i < l.length) : rd_T39 l (i : Int) = l[i] := by simp [rd_T39, h]
theorem rdP_at (l : List S24) (i : Nat) (h : i < l.length) : rd_T24 l (i : Int) = l[i] := by simp [rd_T24, h]
theorem chk_l1 (l : List S39) (hm : l.length ≤ 1000) (a : ByteArray) (b : Bool) (c : Int) : ∀ (k i : Nat), l.length - i < k → i ≤ l.length →
    names_Check.l1 k l (l.length : Int) (i : Int) a b c l = some (if dupR (namesT l) ((namesT l).drop i) i then 141 else 0) := by
  intro k
  induction k with
  | zero => intro i h; omega
  | succ k ih =>
    intro i h hi
    unfold names_Check.l1
    by_cases hl : i < l.length
    · have hd : (namesT l).drop i = l[i].f0 :: (namesT l).drop (i + 1) := by
        rw [namesT, List.drop_eq_getElem_cons (by simpa using hl)]; simp
      rw [if_pos (by omega), if_pos (by omega), if_pos (by omega), rdT_at l i hl, hd, dupR]
      simp only [names_at_api_Toxic.f, Option.bind_some]
      by_cases hp : place (namesT l) l[i].f0 = (i : Int)
      · rw [if_pos (show place (l.map (·.f0)) l[i].f0 = (i : Int) from hp), if_pos hp, show wrap64 ((i : Int) + 1) = ((i + 1 : Nat) : Int) by rw [w64_in' _ (by omega) (by omega)]; rfl]
        exact ih (i + 1) (by omega) (by omega)
      · rw [if_neg (show ¬ place (l.map (·.f0)) l[i].f0 = (i : Int) from hp), if_neg hp]
        rfl
    · have hi2 : i = l.length := by omega
      rw [if_neg (by omega), List.drop_eq_nil_of_le (by simp [namesT]; omega)]
      rfl
theorem chk_l0 (l : List S39) (hm : l.length ≤ 1000) (a : ByteArray) (b : Bool) (c : Int) : ∀ (k i : Nat), (l.length - i) + l.length + 1 < k → i ≤ l.length →
    names_Check.l0 k l (l.length : Int) (i : Int) a b c l = some (if firstBad (l.drop i) = 0 then (if dupR (namesT l) (namesT l) 0 then 141 else 0) else firstBad (l.drop i)) := by
  intro k
  induction k with
  | zero => intro i h; omega
  | succ k ih =>
    intro i h hi
    unfold names_Check.l0
    by_cases hl : i < l.length
    · rw [if_pos (by omega), if_pos (by omega), if_pos (by omega), rdT_at l i hl, List.drop_eq_getElem_cons hl, firstBad]
      simp only [toxic_Check.f, Option.bind_some]
      by_cases hp : ckT l[i] = 0
      · rw [if_pos (show checkOf _ _ _ _ _ _ = 0 from hp), if_pos hp, show wrap64 ((i : Int) + 1) = ((i + 1 : Nat) : Int) by rw [w64_in' _ (by omega) (by omega)]; rfl]
        exact ih (i + 1) (by omega) (by omega)
      · rw [if_neg (show ¬ checkOf _ _ _ _ _ _ = 0 from hp), if_neg hp, if_neg hp]
        rfl
    · have hi2 : i = l.length := by omega
      rw [if_neg (by omega), List.drop_eq_nil_of_le (by omega)]
      have := chk_l1 l hm a b c k 0 (by omega) (by omega)
      rw [List.drop_zero] at this
      rw [if_pos (show firstBad [] = 0 from rfl)]
      exact this
theorem check_is' (x : S24) (k : Nat) (hk : 20 ≤ k) : names_Check.f k x.f0 x.f1 x.f2 x.f3 = some (chkP x) := by
  unfold names_Check.f chkP names_may.f
  simp only [toxic_Name.f, Option.bind_some]
  by_cases hn : nameOk x.f0 = true
  · rw [if_pos hn, if_pos hn]
    by_cases h1 : 1 ≤ x.f2
    · rw [if_pos (show x.f2 ≥ 1 from h1), Option.bind_some]
      by_cases h2 : x.f2 ≤ 16
      · rw [if_pos (show decide (x.f2 ≤ 16) = true from decide_eq_true h2), if_pos (show 1 ≤ x.f2 ∧ x.f2 ≤ 16 from ⟨h1, h2⟩)]
        by_cases h3 : x.f3.length > 8
        · rw [if_pos (by omega), if_pos h3]
        · rw [if_neg (by omega), if_neg h3]
          have := chk_l0 x.f3 (by omega) x.f0 x.f1 x.f2 k 0 (by omega) (by omega)
          rw [List.drop_zero] at this
          exact this
      · rw [if_neg (show ¬ decide (x.f2 ≤ 16) = true by simpa using h2), if_neg (by omega)]
    · rw [if_neg (show ¬ x.f2 ≥ 1 from h1), Option.bind_some, if_neg (by simp), if_neg (by omega)]
  · rw [if_neg hn, if_neg hn]
theorem right_l0 (l : List S24) (hm : l.length ≤ 4611686018427387904) : ∀ (k i : Nat), (l.length - i) + 21 < k → i ≤ l.length →
    names_Right.l0 k l l (l.length : Int) (i : Int) = some ((l.drop i).all (fun x => chkP x == 0) && (if i = 0 then sortedB (namesP l) else sortedB ((namesP l).drop (i - 1))) && decide (l.length ≤ 8)) := by
  intro k
  induction k with
  | zero => intro i h; omega
  | succ k ih =>
    intro i h hi
    unfold names_Right.l0
    by_cases hl : i < l.length
    · rw [if_pos (by omega), if_pos (by omega), if_pos (by omega), rdP_at l i hl, check_is' _ k (by omega), Option.bind_some, List.drop_eq_getElem_cons hl]
      have hw : wrap64 ((i : Int) + 1) = ((i + 1 : Nat) : Int) := by rw [w64_in' _ (by omega) (by omega)]; rfl
      have hstep := ih (i + 1) (by omega) (by omega)
      rw [if_neg (by omega), Nat.add_sub_cancel] at hstep
      by_cases hc : chkP l[i] = 0
      · rw [if_pos hc]
        simp only [List.all_cons, hc, beq_self_eq_true, Bool.true_and]
        by_cases h0 : i = 0
        · subst h0
          rw [if_neg (by simp), if_pos rfl, hw, hstep]
          rfl
        · have hw2 : wrap64 ((i : Int) - 1) = ((i - 1 : Nat) : Int) := by rw [w64_in' _ (by omega) (by omega)]; omega
          have hl1 : i - 1 < l.length := by omega
          rw [if_pos (by omega), if_neg h0, hw2, if_pos (by omega), if_pos (by omega), rdP_at l (i - 1) hl1, hw]
          have hd : (namesP l).drop (i - 1) = l[i - 1].f0 :: (namesP l).drop i := by
            rw [namesP, List.drop_eq_getElem_cons (by simpa using hl1)]
            simp [show i - 1 + 1 = i by omega]
          have hd2 : (namesP l).drop i = l[i].f0 :: (namesP l).drop (i + 1) := by
            rw [namesP, List.drop_eq_getElem_cons (by simpa using hl)]; simp
          rw [hd, hd2, sortedB, sortedFrom]
          rw [hd2, sortedB] at hstep
          cases hb : ltS l[i - 1].f0 l[i].f0
          · rw [if_neg (show ¬ Op.bytesLess _ _ = true by rw [show Op.bytesLess _ _ = false from hb]; simp)]
            simp
          · rw [if_pos (show Op.bytesLess _ _ = true from hb), hstep, Bool.true_and]
      · rw [if_neg hc]
        have : (chkP l[i] == 0) = false := by simpa using hc
        rw [List.all_cons, this]
        simp only [Bool.false_and]
    · have hi2 : i = l.length := by omega
      rw [if_neg (by omega), List.drop_eq_nil_of_le (by omega)]
      have hs : (if i = 0 then sortedB (namesP l) else sortedB ((namesP l).drop (i - 1))) = true := by
        by_cases h0 : i = 0
        · rw [if_pos h0]
          have : l = [] := List.eq_nil_of_length_eq_zero (by omega)
          rw [this]; rfl
        · rw [if_neg h0]
          have hd : (namesP l).drop (i - 1) = [l[i - 1].f0] := by
            rw [namesP, List.drop_eq_getElem_cons (by simp; omega), List.drop_eq_nil_of_le (by simp; omega)]; simp
          rw [hd]; rfl
      rw [hs]
      simp only [List.all_nil, Bool.true_and, Option.some.injEq]
      rw [Bool.eq_iff_iff, decide_eq_true_eq, decide_eq_true_eq]
      omega
theorem right_is' (l : List S24) (hm : l.length ≤ 4611686018427387904) (k : Nat) (hk : l.length + 22 ≤ k) : names_Right.f k l = some (rightB l) := by
  have := right_l0 l hm k 0 (by omega) (by omega)
  rw [List.drop_zero, if_pos rfl] at this
  exact this
theorem right_calls (A0 : Option Addr) (c0 : Nat) (l0 : List S24) (w : World) (hr0 : Kd.C k24 w A0 l0.length l0) (hc0 : l0.length ≤ c0) (hm : l0.length ≤ 4611686018427387904) :
    Calls Try.prog 25 #[.slice A0 l0.length c0] w fun e w' => e = .returned (.bool (rightB l0)) ∧ Below w.heap.size w w' :=
  names_Right.calls _ A0 c0 l0 _ w hr0 hc0 (right_is' l0 hm _ (Nat.le_refl _))
end Go.Proofs.Ytlglbpjccpdloaa.Ext
