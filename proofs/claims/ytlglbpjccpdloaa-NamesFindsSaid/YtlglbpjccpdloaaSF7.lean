/- Gathered by a program of this session (shake.py): what the claim's theorem needs. -/
import Derived.Test.YtlglbpjccpdloaaSF1
import Derived.Test.YtlglbpjccpdloaaSF3
import Derived.Test.YtlglbpjccpdloaaSF4
import Derived.Test.YtlglbpjccpdloaaSF5
import Derived.Test.YtlglbpjccpdloaaSF6
import Derived.WalkKit
import Derived.ProofKit
import Derived.OpenShut
import Derived.ShutString
import Derived.ChangeOld
import Derived.Below
import Derived.SizedLaws
import Derived.Test.YtlglbpjccpdloaaRows
set_option linter.unusedVariables false
set_option linter.unusedSimpArgs false
namespace Go.Proofs.Ytlglbpjccpdloaa.Ext
end Go.Proofs.Ytlglbpjccpdloaa.Ext
namespace Go.Proofs.Ytlglbpjccpdloaa.NmLaw
end Go.Proofs.Ytlglbpjccpdloaa.NmLaw
namespace Go.Proofs.Ytlglbpjccpdloaa.PNamA
end Go.Proofs.Ytlglbpjccpdloaa.PNamA
namespace Go.Proofs.Ytlglbpjccpdloaa.Tox
end Go.Proofs.Ytlglbpjccpdloaa.Tox
namespace Go.Proofs.Ytlglbpjccpdloaa.ToxZ
end Go.Proofs.Ytlglbpjccpdloaa.ToxZ
namespace Go.Proofs.YtlglbpjccpdloaaW.PrintLast
end Go.Proofs.YtlglbpjccpdloaaW.PrintLast
namespace Go.Proofs.YtlglbpjccpdloaaW.PrintMore
end Go.Proofs.YtlglbpjccpdloaaW.PrintMore
namespace Go.Proofs.YtlglbpjccpdloaaW.PrintWords
end Go.Proofs.YtlglbpjccpdloaaW.PrintWords
namespace Go.Proofs.Ytlglbpjccpdloaa.PNamA
open Go.Proofs.Ytlglbpjccpdloaa.Ext Go.Proofs.Ytlglbpjccpdloaa.ToxZ Go.RowKit Go.Proofs.YtlglbpjccpdloaaW.PrintWords Go.Proofs.YtlglbpjccpdloaaW.PrintLast Go.Proofs.YtlglbpjccpdloaaW.PrintMore
attribute [local go_sem] max2_int min2_int max_two min_two max_three min_three max_four min_four   -- for this text's walks alone
set_option linter.unusedVariables false
set_option linter.unusedSimpArgs false
private theorem pw_size_mk (l : Array UInt8) : (⟨l⟩ : ByteArray).size = l.size := rfl
mutual
def chicanelaw14_NamesFinds.j0 : Nat → List (S24) → List (S24) → ByteArray → Bool → Option (Bool)
  | 0, _, _, _, _ => none
  | k + 1, x0, x1, x2, x17 => if x17 = true then ((chicanelaw14_alive.f k).bind fun t218 => (some t218)) else ((names_Find.f x0 x2).bind fun bt219 => ((chicaneref14_Find.f k x0 x2).bind fun t227 => (if (bt219.2.2.2.2 != (decide (t227 ≥ 0))) = true then (chicanelaw14_NamesFinds.j1 k x0 bt219.2.2.2.2 t227 true bt219.1 bt219.2.1 bt219.2.2.1 bt219.2.2.2.1) else ((names_Same.f x0 x1).bind fun t228 => ((chicaneref14_Same.f k x0 x1).bind fun t229 => (if (t228 != t229) = true then (chicanelaw14_NamesFinds.j1 k x0 bt219.2.2.2.2 t227 true bt219.1 bt219.2.1 bt219.2.2.1 bt219.2.2.2.1) else ((names_Same.f x0 x0).bind fun t230 => (chicanelaw14_NamesFinds.j1 k x0 bt219.2.2.2.2 t227 (!t230) bt219.1 bt219.2.1 bt219.2.2.1 bt219.2.2.2.1))))))))
def chicanelaw14_NamesFinds.j1 : Nat → List (S24) → Bool → Int → Bool → ByteArray → Bool → Int → List (S39) → Option (Bool)
  | 0, _, _, _, _, _, _, _, _ => none
  | k + 1, x0, x8, x9, x46, x227000, x227001, x227002, x227003 => if x46 = true then (some false) else (if x8 = true then ((chicanelaw14_alive.f k).bind fun t231 => (if t231 = true then (if 0 ≤ x9 then (if x9 ≤ (wrap64 (x9 + 1)) then (if (wrap64 (x9 + 1)) ≤ (x0.length : Int) then ((chicaneref14_Same.f k (([(⟨x227000, x227001, x227002, x227003⟩ : S24)] : List (S24))) ((x0.take ((wrap64 (x9 + 1)) : Int).toNat).drop (x9 : Int).toNat)).bind fun t239 => (some t239)) else (none)) else (none)) else (none)) else (some false))) else ((chicanelaw14_alive.f k).bind fun t240 => (if t240 = true then ((chicaneref14_Same.f k (([(⟨x227000, x227001, x227002, x227003⟩ : S24)] : List (S24))) (([(⟨(⟨#[]⟩ : ByteArray), false, 0, ([] : List (S39))⟩ : S24)] : List (S24)))).bind fun t247 => (some t247)) else (some false))))
end
def chicanelaw14_NamesFinds.f (k : Nat) (l0 : List (S24)) (l1 : List (S24)) (a2 : ByteArray) : Option (Bool) := (chicanelaw14_few.f k l0).bind fun t216 => (if t216 = true then ((chicanelaw14_few.f k l1).bind fun t217 => (chicanelaw14_NamesFinds.j0 k l0 l1 a2 (!t217))) else (chicanelaw14_NamesFinds.j0 k l0 l1 a2 true))
theorem chicanelaw14_NamesFinds.mono_l : ∀ k, (∀ y0 y1 y2 y3, LeO (chicanelaw14_NamesFinds.j0 k y0 y1 y2 y3) (chicanelaw14_NamesFinds.j0 (k + 1) y0 y1 y2 y3)) ∧ (∀ y0 y1 y2 y3 y4 y5 y6 y7, LeO (chicanelaw14_NamesFinds.j1 k y0 y1 y2 y3 y4 y5 y6 y7) (chicanelaw14_NamesFinds.j1 (k + 1) y0 y1 y2 y3 y4 y5 y6 y7))
  | 0 => ⟨fun _ _ _ _ r h => by simp [chicanelaw14_NamesFinds.j0] at h, fun _ _ _ _ _ _ _ _ r h => by simp [chicanelaw14_NamesFinds.j1] at h⟩
  | k + 1 => by
    obtain ⟨ih0, ih1⟩ := chicanelaw14_NamesFinds.mono_l k
    refine ⟨?_, ?_⟩
    · intro y0 y1 y2 y3
      unfold chicanelaw14_NamesFinds.j0
      repeat' first
      | (with_reducible exact ih0 _ _ _ _)
      | (with_reducible exact ih1 _ _ _ _ _ _ _ _)
      | (with_reducible exact chicanelaw14_alive.mono _)
      | (with_reducible exact chicanelaw14_few.mono _ _)
      | (with_reducible exact chicaneref14_Find.mono _ _ _)
      | (with_reducible exact chicaneref14_Same.mono _ _ _)
      | (with_reducible exact LeO.refl _)
      | (with_reducible exact LeO.none _)
      | (with_reducible refine LeO.ite ?_ ?_)
      | (with_reducible refine LeO.bind ?_ (fun _ => ?_))
      | exact ih0 _ _ _ _
      | exact ih1 _ _ _ _ _ _ _ _
      | exact chicanelaw14_alive.mono _
      | exact chicanelaw14_few.mono _ _
      | exact chicaneref14_Find.mono _ _ _
      | exact chicaneref14_Same.mono _ _ _
      | exact LeO.none _
      | refine LeO.ite ?_ ?_
      | refine LeO.bind ?_ (fun _ => ?_)
    · intro y0 y1 y2 y3 y4 y5 y6 y7
      unfold chicanelaw14_NamesFinds.j1
      repeat' first
      | (with_reducible exact ih0 _ _ _ _)
      | (with_reducible exact ih1 _ _ _ _ _ _ _ _)
      | (with_reducible exact chicanelaw14_alive.mono _)
      | (with_reducible exact chicanelaw14_few.mono _ _)
      | (with_reducible exact chicaneref14_Find.mono _ _ _)
      | (with_reducible exact chicaneref14_Same.mono _ _ _)
      | (with_reducible exact LeO.refl _)
      | (with_reducible exact LeO.none _)
      | (with_reducible refine LeO.ite ?_ ?_)
      | (with_reducible refine LeO.bind ?_ (fun _ => ?_))
      | exact ih0 _ _ _ _
      | exact ih1 _ _ _ _ _ _ _ _
      | exact chicanelaw14_alive.mono _
      | exact chicanelaw14_few.mono _ _
      | exact chicaneref14_Find.mono _ _ _
      | exact chicaneref14_Same.mono _ _ _
      | exact LeO.none _
      | refine LeO.ite ?_ ?_
      | refine LeO.bind ?_ (fun _ => ?_)
theorem chicanelaw14_NamesFinds.mono : ∀ a0 a1 a2 k, LeO (chicanelaw14_NamesFinds.f k a0 a1 a2) (chicanelaw14_NamesFinds.f (k + 1) a0 a1 a2) := by
  intro a0 a1 a2 k
  obtain ⟨ih0, ih1⟩ := chicanelaw14_NamesFinds.mono_l k
  unfold chicanelaw14_NamesFinds.f
  repeat' first
      | (with_reducible exact ih0 _ _ _ _)
      | (with_reducible exact ih1 _ _ _ _ _ _ _ _)
      | (with_reducible exact chicanelaw14_alive.mono _)
      | (with_reducible exact chicanelaw14_few.mono _ _)
      | (with_reducible exact chicaneref14_Find.mono _ _ _)
      | (with_reducible exact chicaneref14_Same.mono _ _ _)
      | (with_reducible exact LeO.refl _)
      | (with_reducible exact LeO.none _)
      | (with_reducible refine LeO.ite ?_ ?_)
      | (with_reducible refine LeO.bind ?_ (fun _ => ?_))
      | exact ih0 _ _ _ _
      | exact ih1 _ _ _ _ _ _ _ _
      | exact chicanelaw14_alive.mono _
      | exact chicanelaw14_few.mono _ _
      | exact chicaneref14_Find.mono _ _ _
      | exact chicaneref14_Same.mono _ _ _
      | exact LeO.none _
      | refine LeO.ite ?_ ?_
      | refine LeO.bind ?_ (fun _ => ?_)
def chicanelaw14_NamesFinds.T9 : Bool × List (List Nat × List Nat) := (true, [([], []), ([0, 0], [0]), ([1], [1]), ([2, 1], [1, 2]), ([1], [1]), ([1], [1]), ([1], [1]), ([6, 1], [1, 6]), ([4, 5, 7, 1], [1, 4, 5, 7]), ([3, 8, 1, 1], [1, 3, 8]), ([1, 9], [1, 9]), ([10, 9, 0, 1, 2, 3, 4, 5, 6, 7, 8, 9, 10], [10])])
def chicanelaw14_NamesFinds.B9 : List Nat := [0, 1, 3, 7, 3, 3, 3, 67, 243, 511, 1023, 2047]
theorem chicanelaw14_NamesFinds.tab9 : rtab .any (opsOf Try.f4 9) = chicanelaw14_NamesFinds.T9 := by kernel_rfl
theorem chicanelaw14_NamesFinds.bits9 : waitsOk chicanelaw14_NamesFinds.T9.2 chicanelaw14_NamesFinds.B9 = true := by kernel_rfl
set_option maxHeartbeats 8000000 in
set_option maxRecDepth 100000 in
theorem chicanelaw14_NamesFinds.calls (k : Nat) (A0 : Option Addr) (c0 : Nat) (l0 : List (S24)) (A1 : Option Addr) (c1 : Nat) (l1 : List (S24)) (a2 : ByteArray) (r : Bool) (w : World) (hr0 : Kd.C k24 w A0 l0.length l0) (hc0 : l0.length ≤ c0) (hr1 : Kd.C k24 w A1 l1.length l1) (hc1 : l1.length ≤ c1) (hr : r = true) (h : chicanelaw14_NamesFinds.f k l0 l1 a2 = some r) :
    Calls Try.prog 4 #[.slice A0 l0.length c0, .slice A1 l1.length c1, .string a2] w fun e w' => e = .returned (.bool r) ∧ Below w.heap.size w w' := by
  have hu24 := Try.underlying24
  have HR0 := Aside0.mk hr0
  have HC0 := Aside0.mk hc0
  clear hr0 hc0
  have HR1 := Aside0.mk hr1
  have HC1 := Aside0.mk hc1
  clear hr1 hc1
  have HB := Aside0.mk (Below.refl w.heap.size w)
  have H : ((chicanelaw14_few.f k l0).bind fun t216 => (if t216 = true then ((chicanelaw14_few.f k l1).bind fun t217 => (chicanelaw14_NamesFinds.j0 k l0 l1 a2 (!t217))) else (chicanelaw14_NamesFinds.j0 k l0 l1 a2 true))) = some r := h
  clear h
  have HC4 := Aside0.mk H
  clear H
  go_enter Try.func4, Try.ntmps4
  go_upto_region 1 with (fail)
  go_cut [17] (fun v17 wc => ∃ (kq : Nat) (x17_3 : Bool), v17 = .bool x17_3 ∧ Aside0 (chicanelaw14_NamesFinds.j0 kq l0 l1 a2 x17_3 = some r) ∧ Aside0 (kq ≤ k) ∧ Aside0 (Below w.heap.size w wc))
  case first =>
    have H := HC4.out
    clear HC4
    replace H := Option.bind_eq_some_iff.mp H
    obtain ⟨t216, A50, H⟩ := H
    replace H : (if t216 = true then ((chicanelaw14_few.f k l1).bind fun t217 => (chicanelaw14_NamesFinds.j0 k l0 l1 a2 (!t217))) else (chicanelaw14_NamesFinds.j0 k l0 l1 a2 true)) = some r := H
    have A5 := Aside0.mk A50
    clear A50
    by_cases c6 : t216 = true
    · subst c6
      have H1 : ((chicanelaw14_few.f k l1).bind fun t217 => (chicanelaw14_NamesFinds.j0 k l0 l1 a2 (!t217))) = some r := by rw [if_pos rfl] at H; exact H
      clear H
      have H := H1
      clear H1
      replace H := Option.bind_eq_some_iff.mp H
      obtain ⟨t217, A70, H⟩ := H
      replace H : (chicanelaw14_NamesFinds.j0 k l0 l1 a2 (!t217)) = some r := H
      have A7 := Aside0.mk A70
      clear A70
      have H' := Aside0.mk H
      clear H
      go_wp2_with (first | ((with_reducible refine gate_callee (f := 7) rfl ?_); refine goesL_ (some 11) rfl rfl Try.func7 (by kernel_rfl) rfl #[.slice A0 l0.length c0] rfl (by (try simp only [List.map_toArray, List.map_cons, List.map_nil]); first | done | rfl | (simp only [List.length_drop, List.length_take]; rfl)) ?_; (with_reducible refine (chicanelaw14_few.calls k _ _ l0 true _ ?side1 ?side2 A5.out).mono ?_); (case side1 => repeat (first | exact (Kd.C_below HR0.out HB.out) | (with_reducible refine Kd.C_alloc ?_ _) | (with_reducible refine Kd.C_drewN ?_ _) | (with_reducible refine Kd.C_drew ?_))); (case side2 => exact HC0.out); rintro e w8 ⟨rfl, hb⟩; refine ⟨_, rfl, ?_⟩; have n0_ := Aside0.mk (below_step (by repeat (first | (with_reducible first | exact HB.out | apply below_alloc | apply pw_below_drewN | apply below_drew1) | exact HB.out)) hb); clear HB; have HB := n0_; clear n0_; (try clear hb); (try clear hb2); (try clear hk); (try clear hi)) | (go_at_call 7; (with_reducible refine (chicanelaw14_few.calls k _ _ l1 t217 _ ?side1 ?side2 A7.out).mono ?_); (case side1 => repeat (first | exact (Kd.C_below HR1.out HB.out) | (with_reducible refine Kd.C_alloc ?_ _) | (with_reducible refine Kd.C_drewN ?_ _) | (with_reducible refine Kd.C_drew ?_))); (case side2 => exact HC1.out); rintro e w9 ⟨rfl, hb⟩; have n0_ := Aside0.mk (below_step (by repeat (first | (with_reducible first | exact HB.out | apply below_alloc | apply pw_below_drewN | apply below_drew1) | exact HB.out)) hb); clear HB; have HB := n0_; clear n0_; (try clear hb); (try clear hb2); (try clear hk); (try clear hi)))
      go_meet
      case rel => exact ⟨_, (!t217), (by first | rfl | (simp; done) | (simp [*]; done)), H', ⟨by first | omega | exact Nat.le_refl _⟩, ⟨by repeat (first | (with_reducible first | exact HB.out | apply below_alloc | apply pw_below_drewN | apply below_drew1) | exact HB.out)⟩⟩
    · replace c6 := Bool.eq_false_iff.mpr c6
      subst c6
      have H1 : (chicanelaw14_NamesFinds.j0 k l0 l1 a2 true) = some r := by rw [if_neg (show ¬ (false = true) by decide)] at H; exact H
      clear H
      have H := H1
      clear H1
      have H' := Aside0.mk H
      clear H
      go_wp2_with (first | ((with_reducible refine gate_callee (f := 7) rfl ?_); refine goesL_ (some 11) rfl rfl Try.func7 (by kernel_rfl) rfl #[.slice A0 l0.length c0] rfl (by (try simp only [List.map_toArray, List.map_cons, List.map_nil]); first | done | rfl | (simp only [List.length_drop, List.length_take]; rfl)) ?_; (with_reducible refine (chicanelaw14_few.calls k _ _ l0 false _ ?side1 ?side2 A5.out).mono ?_); (case side1 => repeat (first | exact (Kd.C_below HR0.out HB.out) | (with_reducible refine Kd.C_alloc ?_ _) | (with_reducible refine Kd.C_drewN ?_ _) | (with_reducible refine Kd.C_drew ?_))); (case side2 => exact HC0.out); rintro e w10 ⟨rfl, hb⟩; refine ⟨_, rfl, ?_⟩; have n0_ := Aside0.mk (below_step (by repeat (first | (with_reducible first | exact HB.out | apply below_alloc | apply pw_below_drewN | apply below_drew1) | exact HB.out)) hb); clear HB; have HB := n0_; clear n0_; (try clear hb); (try clear hb2); (try clear hk); (try clear hi)))
      go_meet
      case rel => exact ⟨_, (true), (by first | rfl | (simp; done) | (simp [*]; done)), H', ⟨by first | omega | exact Nat.le_refl _⟩, ⟨by repeat (first | (with_reducible first | exact HB.out | apply below_alloc | apply pw_below_drewN | apply below_drew1) | exact HB.out)⟩⟩
  case rest =>
    clear HC4
    try clear c1
    try clear p2
    try clear c4
    try clear c6
    try clear c7
    obtain ⟨kq, x17_3, rfl, HA, HJ3, HB⟩ := hcut
    cases kq with
    | zero => exact absurd HA.out (by simp [chicanelaw14_NamesFinds.j0])
    | succ kj3 =>
      have H := HA.out
      clear HA
      simp only [chicanelaw14_NamesFinds.j0] at H
      by_cases c11 : x17_3 = true
      · subst c11
        have H1 : ((chicanelaw14_alive.f kj3).bind fun t218 => (some t218)) = some r := by rw [if_pos rfl] at H; exact H
        clear H
        have H := H1
        clear H1
        replace H := Option.bind_eq_some_iff.mp H
        obtain ⟨t218, A120, H⟩ := H
        replace H : (some t218) = some r := H
        have A12 := Aside0.mk A120
        clear A120
        obtain rfl := Option.some.inj H
        go_wp2_with (first | ((with_reducible refine gate_callee (f := 8) rfl ?_); refine goesL_ (some 18) rfl rfl Try.func8 (by kernel_rfl) rfl #[] rfl (by (try simp only [List.map_toArray, List.map_cons, List.map_nil]); first | done | rfl | (simp only [List.length_drop, List.length_take]; rfl)) ?_; (with_reducible refine (chicanelaw14_alive.calls kj3  t218 _ A12.out).mono ?_); rintro e w13 ⟨rfl, hb⟩; refine ⟨_, rfl, ?_⟩; have n0_ := Aside0.mk (below_step (by repeat (first | (with_reducible first | exact HB.out | apply below_alloc | apply pw_below_drewN | apply below_drew1) | exact HB.out)) hb); clear HB; have HB := n0_; clear n0_; (try clear hb); (try clear hb2); (try clear hk); (try clear hi)))
        go_ret
        exact ⟨by first | rfl | (simp [errW_none, errW_some] <;> rfl) | (simp [*, errW_none, errW_some] <;> rfl), by repeat (first | (with_reducible first | exact HB.out | apply below_alloc | apply pw_below_drewN | apply below_drew1) | exact HB.out)⟩
      · replace c11 := Bool.eq_false_iff.mpr c11
        subst c11
        have H1 : ((names_Find.f l0 a2).bind fun bt219 => ((chicaneref14_Find.f kj3 l0 a2).bind fun t227 => (if (bt219.2.2.2.2 != (decide (t227 ≥ 0))) = true then (chicanelaw14_NamesFinds.j1 kj3 l0 bt219.2.2.2.2 t227 true bt219.1 bt219.2.1 bt219.2.2.1 bt219.2.2.2.1) else ((names_Same.f l0 l1).bind fun t228 => ((chicaneref14_Same.f kj3 l0 l1).bind fun t229 => (if (t228 != t229) = true then (chicanelaw14_NamesFinds.j1 kj3 l0 bt219.2.2.2.2 t227 true bt219.1 bt219.2.1 bt219.2.2.1 bt219.2.2.2.1) else ((names_Same.f l0 l0).bind fun t230 => (chicanelaw14_NamesFinds.j1 kj3 l0 bt219.2.2.2.2 t227 (!t230) bt219.1 bt219.2.1 bt219.2.2.1 bt219.2.2.2.1)))))))) = some r := by rw [if_neg (show ¬ (false = true) by decide)] at H; exact H
        clear H
        have H := H1
        clear H1
        replace H := Option.bind_eq_some_iff.mp H
        obtain ⟨⟨t219, t220, t221, t222, t225⟩, A140, H⟩ := H
        replace H : ((chicaneref14_Find.f kj3 l0 a2).bind fun t227 => (if (t225 != (decide (t227 ≥ 0))) = true then (chicanelaw14_NamesFinds.j1 kj3 l0 t225 t227 true t219 t220 t221 t222) else ((names_Same.f l0 l1).bind fun t228 => ((chicaneref14_Same.f kj3 l0 l1).bind fun t229 => (if (t228 != t229) = true then (chicanelaw14_NamesFinds.j1 kj3 l0 t225 t227 true t219 t220 t221 t222) else ((names_Same.f l0 l0).bind fun t230 => (chicanelaw14_NamesFinds.j1 kj3 l0 t225 t227 (!t230) t219 t220 t221 t222))))))) = some r := H
        have A14 := Aside0.mk A140
        clear A140
        replace H := Option.bind_eq_some_iff.mp H
        obtain ⟨t227, A150, H⟩ := H
        replace H : (if (t225 != (decide (t227 ≥ 0))) = true then (chicanelaw14_NamesFinds.j1 kj3 l0 t225 t227 true t219 t220 t221 t222) else ((names_Same.f l0 l1).bind fun t228 => ((chicaneref14_Same.f kj3 l0 l1).bind fun t229 => (if (t228 != t229) = true then (chicanelaw14_NamesFinds.j1 kj3 l0 t225 t227 true t219 t220 t221 t222) else ((names_Same.f l0 l0).bind fun t230 => (chicanelaw14_NamesFinds.j1 kj3 l0 t225 t227 (!t230) t219 t220 t221 t222)))))) = some r := H
        have A15 := Aside0.mk A150
        clear A150
        have HC16 := Aside0.mk H
        clear H
        go_upto_region 5 with (first | ((with_reducible refine gate_callee (f := 13) rfl ?_); refine goesL_ (some 22) rfl rfl Try.func13 (by kernel_rfl) rfl #[.slice A0 l0.length c0, .string a2] rfl (by (try simp only [List.map_toArray, List.map_cons, List.map_nil]); first | done | rfl | (simp only [List.length_drop, List.length_take]; rfl)) ?_; (with_reducible refine (names_Find.calls _ _ l0 a2 t219 t220 t221 t222 t225 _ ?side1 ?side2 A14.out).mono ?_); (case side1 => repeat (first | exact (Kd.C_below HR0.out HB.out) | (with_reducible refine Kd.C_alloc ?_ _) | (with_reducible refine Kd.C_drewN ?_ _) | (with_reducible refine Kd.C_drew ?_))); (case side2 => exact HC0.out); rintro e w17 ⟨v223, rfl, ho0, hb⟩; refine ⟨_, rfl, ?_⟩; have n0_ := Aside0.mk (Kd.R_lower ho0 (below_size (by repeat (first | (with_reducible first | exact HB.out | apply below_alloc | apply pw_below_drewN | apply below_drew1) | exact HB.out)))); have n1_ := Aside0.mk (below_step (by repeat (first | (with_reducible first | exact HB.out | apply below_alloc | apply pw_below_drewN | apply below_drew1) | exact HB.out)) hb); clear HB; have HO224 := n0_; have HB := n1_; clear n0_ n1_; (try clear hb); (try clear hb2); (try clear hk); (try clear hi); (try clear ho0)) | ((with_reducible refine gate_dst (N := 7) rfl ?_); (try (refine gate_guard (by rfl) ?_; dsimp only)); refine box_event ?hg (N := 7) ?hd (cs := #[.string (⟨#[]⟩ : ByteArray), .bool false, .int .i64 0, .slice none 0 0]) (t := 24) ?hr ?_; (case hd => rfl); (case hg => rfl); (case hr => first | (go_simp; done) | (go_simp; rfl)); intro gb226 hg w18 hbox hb; have n0_ := Aside0.mk (Kd.R_below (by (with_reducible repeat (first | apply Kd.R_alloc | apply Kd.R_drewN | apply Kd.R_drew)); exact HO224.out) hb); have n1_ := Aside0.mk (below_step (by repeat (first | (with_reducible first | exact HB.out | apply below_alloc | apply pw_below_drewN | apply below_drew1) | exact HB.out)) hb); have n2_ := Aside0.mk (hbox); have n3_ := Aside0.mk ((by rw [hg]; exact (below_size (by repeat (first | (with_reducible first | exact HB.out | apply below_alloc | apply pw_below_drewN | apply below_drew1) | exact HB.out))) : w.heap.size ≤ gb226)); have n4_ := Aside0.mk ((by rw [hg]; exact (below_size (by repeat (first | (with_reducible first | exact HB.out | apply below_alloc | apply pw_below_drewN | apply below_drew1) | exact HB.out))) : w.heap.size ≤ gb226)); clear HO224; clear HB; have HO224 := n0_; have HB := n1_; have BK226 := n2_; have GW226 := n3_; have GE226 := n4_; clear n0_ n1_ n2_ n3_ n4_; clear hb hbox hg; have hcz19_0 : w18.cell? ⟨gb226, 0, none⟩ = some (.string (⟨#[]⟩ : ByteArray)) := (blk_cell BK226.out 0).trans rfl; have hcz19_1 : w18.cell? ⟨gb226, 1, none⟩ = some (.bool false) := (blk_cell BK226.out 1).trans rfl; have hcz19_2 : w18.cell? ⟨gb226, 2, none⟩ = some (.int .i64 0) := (blk_cell BK226.out 2).trans rfl; have hcz19_3 : w18.cell? ⟨gb226, 3, none⟩ = some (.slice none 0 0) := (blk_cell BK226.out 3).trans rfl; have hfz19_0 := blk_frozen BK226.out 0; have hfz19_1 := blk_frozen BK226.out 1; have hfz19_2 := blk_frozen BK226.out 2; have hfz19_3 := blk_frozen BK226.out 3; obtain ⟨Ao20, co20, eo20⟩ := Kd.R_slice HO224.out; subst eo20) | ((with_reducible refine gate_callee (f := 14) rfl ?_); refine goesL_ (some 27) rfl rfl Try.func14 (by kernel_rfl) rfl #[.slice A0 l0.length c0, .string a2] rfl (by (try simp only [List.map_toArray, List.map_cons, List.map_nil]); first | done | rfl | (simp only [List.length_drop, List.length_take]; rfl)) ?_; (with_reducible refine (chicaneref14_Find.calls kj3 _ _ l0 a2 t227 _ ?side1 ?side2 A15.out).mono ?_); (case side1 => exact Kd.C_below HR0.out (by repeat (first | (with_reducible first | exact HB.out | apply below_alloc | apply pw_below_drewN | apply below_drew1 | refine below_set ?_ GE226.out) | exact HB.out))); (case side2 => exact HC0.out); rintro e w' ⟨rfl, ⟨nd, rfl⟩⟩; refine ⟨_, rfl, ?_⟩))
        (try simp only [Act.put, List.setIfInBounds_toArray, List.set_cons_zero, List.set_cons_succ])
        go_cut [46] (fun v46 wc => ∃ (kq : Nat) (x46_15 : Bool), v46 = .bool x46_15 ∧ Aside0 (chicanelaw14_NamesFinds.j1 kq l0 t225 t227 x46_15 t219 t220 t221 t222 = some r) ∧ Aside0 (kq ≤ kj3) ∧ Aside0 (Kd.R k39 39 wc w.heap.size (fun _ => True) (.slice Ao20 t222.length co20) t222) ∧ Aside0 (wc.heap[gb226]? = some (.cells #[.string t219, .bool t220, .int .i64 t221, (.slice Ao20 t222.length co20)] 24 (0, 0))) ∧ Aside0 (Below w.heap.size w wc))
        case first =>
          have H := HC16.out
          clear HC16
          by_cases c21 : (t225 != (decide (t227 ≥ 0))) = true
          · rw [if_pos c21] at H
            have c21b0 : (t225 != (decide (t227 ≥ 0))) = true := c21
            (try (have c21b1 : decide (t225 = (decide (t227 ≥ 0))) = false := by simpa using c21))
            (try (have c21b2 : (t225 == (decide (t227 ≥ 0))) = false := by simpa using c21))
            (try (have c21b3 : ¬ (t225 = (decide (t227 ≥ 0))) := by simpa using c21))
            clear c21
            (first | rw [c21b0] | (simp only [i64_w, i32_w]; rw [c21b0]) | skip)
            have H' := Aside0.mk H
            clear H
            go_wp2
            go_meet
            case rel => exact ⟨_, (true), (by first | rfl | (simp; done) | (simp [*]; done)), H', ⟨by have := HJ3.out; first | omega | exact Nat.le_refl _⟩, ⟨by (with_reducible repeat (first | apply Kd.R_alloc | apply Kd.R_drewN | apply Kd.R_drew)); exact Kd.R_mono (Kd.R_far (p := ⟨gb226, 3, none⟩) (Kd.R_far (p := ⟨gb226, 2, none⟩) (Kd.R_far (p := ⟨gb226, 1, none⟩) (Kd.R_far (p := ⟨gb226, 0, none⟩) (Kd.R_types HO224.out BK226.out (by decide)) (fun _ hk => hk.2) (.string t219)) (fun _ hk => hk.2) (.bool t220)) (fun _ hk => hk.2) (.int .i64 t221)) (fun _ hk => hk.2) (.slice Ao20 t222.length co20)) (fun _ hk => trivial)⟩, ⟨by (with_reducible repeat (first | refine blk_drewN ?_ _ | refine blk_drew ?_ | refine blk_alloc ?_ _)); refine blk_put (cs := #[.string t219, .bool t220, .int .i64 t221, .slice none 0 0]) ?_ 3 _ rfl; (with_reducible repeat (first | refine blk_drewN ?_ _ | refine blk_drew ?_ | refine blk_alloc ?_ _)); refine blk_put (cs := #[.string t219, .bool t220, .int .i64 0, .slice none 0 0]) ?_ 2 _ rfl; (with_reducible repeat (first | refine blk_drewN ?_ _ | refine blk_drew ?_ | refine blk_alloc ?_ _)); refine blk_put (cs := #[.string t219, .bool false, .int .i64 0, .slice none 0 0]) ?_ 1 _ rfl; (with_reducible repeat (first | refine blk_drewN ?_ _ | refine blk_drew ?_ | refine blk_alloc ?_ _)); refine blk_put (cs := #[.string (⟨#[]⟩ : ByteArray), .bool false, .int .i64 0, .slice none 0 0]) ?_ 0 _ rfl; (with_reducible repeat (first | refine blk_drewN ?_ _ | refine blk_drew ?_ | refine blk_alloc ?_ _)); exact BK226.out⟩, ⟨by repeat (first | (with_reducible first | exact HB.out | apply below_alloc | apply pw_below_drewN | apply below_drew1 | refine below_set ?_ GE226.out) | exact HB.out)⟩⟩
          · rw [if_neg c21] at H
            have c21b0 : (t225 != (decide (t227 ≥ 0))) = false := by simpa using c21
            (try (have c21b1 : decide (t225 = (decide (t227 ≥ 0))) = true := by simpa using c21))
            (try (have c21b2 : (t225 == (decide (t227 ≥ 0))) = true := by simpa using c21))
            clear c21
            (first | rw [c21b0] | (simp only [i64_w, i32_w]; rw [c21b0]) | skip)
            replace H := Option.bind_eq_some_iff.mp H
            obtain ⟨t228, A220, H⟩ := H
            replace H : ((chicaneref14_Same.f kj3 l0 l1).bind fun t229 => (if (t228 != t229) = true then (chicanelaw14_NamesFinds.j1 kj3 l0 t225 t227 true t219 t220 t221 t222) else ((names_Same.f l0 l0).bind fun t230 => (chicanelaw14_NamesFinds.j1 kj3 l0 t225 t227 (!t230) t219 t220 t221 t222)))) = some r := H
            have A22 := Aside0.mk A220
            clear A220
            replace H := Option.bind_eq_some_iff.mp H
            obtain ⟨t229, A230, H⟩ := H
            replace H : (if (t228 != t229) = true then (chicanelaw14_NamesFinds.j1 kj3 l0 t225 t227 true t219 t220 t221 t222) else ((names_Same.f l0 l0).bind fun t230 => (chicanelaw14_NamesFinds.j1 kj3 l0 t225 t227 (!t230) t219 t220 t221 t222))) = some r := H
            have A23 := Aside0.mk A230
            clear A230
            by_cases c24 : (t228 != t229) = true
            · rw [if_pos c24] at H
              have c24b0 : (t228 != t229) = true := c24
              (try (have c24b1 : decide (t228 = t229) = false := by simpa using c24))
              (try (have c24b2 : (t228 == t229) = false := by simpa using c24))
              (try (have c24b3 : ¬ (t228 = t229) := by simpa using c24))
              clear c24
              have H' := Aside0.mk H
              clear H
              go_wp2_with (first | (go_at_call 15; (with_reducible refine (names_Same.calls _ _ l0 _ _ l1 t228 _ ?side1 ?side2 ?side3 ?side4 A22.out).mono ?_); (case side1 => exact Kd.C_below HR0.out (by repeat (first | (with_reducible first | exact HB.out | apply below_alloc | apply pw_below_drewN | apply below_drew1 | refine below_set ?_ GE226.out) | exact HB.out))); (case side2 => exact HC0.out); (case side3 => exact Kd.C_below HR1.out (by repeat (first | (with_reducible first | exact HB.out | apply below_alloc | apply pw_below_drewN | apply below_drew1 | refine below_set ?_ GE226.out) | exact HB.out))); (case side4 => exact HC1.out); rintro e w25 ⟨rfl, hb⟩; have n0_ := Aside0.mk (Kd.R_below (by (with_reducible repeat (first | apply Kd.R_alloc | apply Kd.R_drewN | apply Kd.R_drew)); exact (Kd.R_mono (Kd.R_far (p := ⟨gb226, 3, none⟩) (Kd.R_far (p := ⟨gb226, 2, none⟩) (Kd.R_far (p := ⟨gb226, 1, none⟩) (Kd.R_far (p := ⟨gb226, 0, none⟩) (Kd.R_types HO224.out BK226.out (by decide)) (fun _ hk => hk.2) (.string t219)) (fun _ hk => hk.2) (.bool t220)) (fun _ hk => hk.2) (.int .i64 t221)) (fun _ hk => hk.2) (.slice Ao20 t222.length co20)) (fun _ h_ => h_.1))) hb); have n1_ := Aside0.mk (blk_below (g := gb226) (o := .cells #[.string t219, .bool t220, .int .i64 t221, .slice Ao20 t222.length co20] 24 (0, 0)) (by (with_reducible repeat (first | refine blk_drewN ?_ _ | refine blk_drew ?_ | refine blk_alloc ?_ _)); refine blk_put (cs := #[.string t219, .bool t220, .int .i64 t221, .slice none 0 0]) ?_ 3 _ rfl; (with_reducible repeat (first | refine blk_drewN ?_ _ | refine blk_drew ?_ | refine blk_alloc ?_ _)); refine blk_put (cs := #[.string t219, .bool t220, .int .i64 0, .slice none 0 0]) ?_ 2 _ rfl; (with_reducible repeat (first | refine blk_drewN ?_ _ | refine blk_drew ?_ | refine blk_alloc ?_ _)); refine blk_put (cs := #[.string t219, .bool false, .int .i64 0, .slice none 0 0]) ?_ 1 _ rfl; (with_reducible repeat (first | refine blk_drewN ?_ _ | refine blk_drew ?_ | refine blk_alloc ?_ _)); refine blk_put (cs := #[.string (⟨#[]⟩ : ByteArray), .bool false, .int .i64 0, .slice none 0 0]) ?_ 0 _ rfl; (with_reducible repeat (first | refine blk_drewN ?_ _ | refine blk_drew ?_ | refine blk_alloc ?_ _)); exact BK226.out) hb); have n2_ := Aside0.mk (below_step (by repeat (first | (with_reducible first | exact HB.out | apply below_alloc | apply pw_below_drewN | apply below_drew1 | refine below_set ?_ GE226.out) | exact HB.out)) hb); clear HO224; clear BK226; clear HB; have HO224 := n0_; have BK226 := n1_; have HB := n2_; clear n0_ n1_ n2_; (try clear hb); (try clear hb2); (try clear hk); (try clear hi)) | (go_at_call 16; (with_reducible refine (chicaneref14_Same.calls kj3 _ _ l0 _ _ l1 t229 _ ?side1 ?side2 ?side3 ?side4 A23.out).mono ?_); (case side1 => repeat (first | exact (Kd.C_below HR0.out HB.out) | (with_reducible refine Kd.C_alloc ?_ _) | (with_reducible refine Kd.C_drewN ?_ _) | (with_reducible refine Kd.C_drew ?_))); (case side2 => exact HC0.out); (case side3 => repeat (first | exact (Kd.C_below HR1.out HB.out) | (with_reducible refine Kd.C_alloc ?_ _) | (with_reducible refine Kd.C_drewN ?_ _) | (with_reducible refine Kd.C_drew ?_))); (case side4 => exact HC1.out); rintro e w26 ⟨rfl, hb⟩; have n0_ := Aside0.mk (Kd.R_below (by (with_reducible repeat (first | apply Kd.R_alloc | apply Kd.R_drewN | apply Kd.R_drew)); exact HO224.out) hb); have n1_ := Aside0.mk (blk_below (g := gb226) (o := .cells #[.string t219, .bool t220, .int .i64 t221, .slice Ao20 t222.length co20] 24 (0, 0)) (by (with_reducible repeat (first | refine blk_drewN ?_ _ | refine blk_drew ?_ | refine blk_alloc ?_ _)); exact BK226.out) hb); have n2_ := Aside0.mk (below_step (by repeat (first | (with_reducible first | exact HB.out | apply below_alloc | apply pw_below_drewN | apply below_drew1 | refine below_set ?_ GE226.out) | exact HB.out)) hb); clear HO224; clear BK226; clear HB; have HO224 := n0_; have BK226 := n1_; have HB := n2_; clear n0_ n1_ n2_; (try clear hb); (try clear hb2); (try clear hk); (try clear hi)))
              go_meet
              case rel => exact ⟨_, (true), (by first | rfl | (simp; done) | (simp [*]; done)), H', ⟨by have := HJ3.out; first | omega | exact Nat.le_refl _⟩, ⟨by (with_reducible repeat (first | apply Kd.R_alloc | apply Kd.R_drewN | apply Kd.R_drew)); exact HO224.out⟩, ⟨by (with_reducible repeat (first | refine blk_drewN ?_ _ | refine blk_drew ?_ | refine blk_alloc ?_ _)); exact BK226.out⟩, ⟨by repeat (first | (with_reducible first | exact HB.out | apply below_alloc | apply pw_below_drewN | apply below_drew1 | refine below_set ?_ GE226.out) | exact HB.out)⟩⟩
            · rw [if_neg c24] at H
              have c24b0 : (t228 != t229) = false := by simpa using c24
              (try (have c24b1 : decide (t228 = t229) = true := by simpa using c24))
              (try (have c24b2 : (t228 == t229) = true := by simpa using c24))
              clear c24
              replace H := Option.bind_eq_some_iff.mp H
              obtain ⟨t230, A270, H⟩ := H
              replace H : (chicanelaw14_NamesFinds.j1 kj3 l0 t225 t227 (!t230) t219 t220 t221 t222) = some r := H
              have A27 := Aside0.mk A270
              clear A270
              have H' := Aside0.mk H
              clear H
              go_wp2_with (first | (go_at_call 15; (with_reducible refine (names_Same.calls _ _ l0 _ _ l1 t228 _ ?side1 ?side2 ?side3 ?side4 A22.out).mono ?_); (case side1 => exact Kd.C_below HR0.out (by repeat (first | (with_reducible first | exact HB.out | apply below_alloc | apply pw_below_drewN | apply below_drew1 | refine below_set ?_ GE226.out) | exact HB.out))); (case side2 => exact HC0.out); (case side3 => exact Kd.C_below HR1.out (by repeat (first | (with_reducible first | exact HB.out | apply below_alloc | apply pw_below_drewN | apply below_drew1 | refine below_set ?_ GE226.out) | exact HB.out))); (case side4 => exact HC1.out); rintro e w28 ⟨rfl, hb⟩; have n0_ := Aside0.mk (Kd.R_below (by (with_reducible repeat (first | apply Kd.R_alloc | apply Kd.R_drewN | apply Kd.R_drew)); exact (Kd.R_mono (Kd.R_far (p := ⟨gb226, 3, none⟩) (Kd.R_far (p := ⟨gb226, 2, none⟩) (Kd.R_far (p := ⟨gb226, 1, none⟩) (Kd.R_far (p := ⟨gb226, 0, none⟩) (Kd.R_types HO224.out BK226.out (by decide)) (fun _ hk => hk.2) (.string t219)) (fun _ hk => hk.2) (.bool t220)) (fun _ hk => hk.2) (.int .i64 t221)) (fun _ hk => hk.2) (.slice Ao20 t222.length co20)) (fun _ h_ => h_.1))) hb); have n1_ := Aside0.mk (blk_below (g := gb226) (o := .cells #[.string t219, .bool t220, .int .i64 t221, .slice Ao20 t222.length co20] 24 (0, 0)) (by (with_reducible repeat (first | refine blk_drewN ?_ _ | refine blk_drew ?_ | refine blk_alloc ?_ _)); refine blk_put (cs := #[.string t219, .bool t220, .int .i64 t221, .slice none 0 0]) ?_ 3 _ rfl; (with_reducible repeat (first | refine blk_drewN ?_ _ | refine blk_drew ?_ | refine blk_alloc ?_ _)); refine blk_put (cs := #[.string t219, .bool t220, .int .i64 0, .slice none 0 0]) ?_ 2 _ rfl; (with_reducible repeat (first | refine blk_drewN ?_ _ | refine blk_drew ?_ | refine blk_alloc ?_ _)); refine blk_put (cs := #[.string t219, .bool false, .int .i64 0, .slice none 0 0]) ?_ 1 _ rfl; (with_reducible repeat (first | refine blk_drewN ?_ _ | refine blk_drew ?_ | refine blk_alloc ?_ _)); refine blk_put (cs := #[.string (⟨#[]⟩ : ByteArray), .bool false, .int .i64 0, .slice none 0 0]) ?_ 0 _ rfl; (with_reducible repeat (first | refine blk_drewN ?_ _ | refine blk_drew ?_ | refine blk_alloc ?_ _)); exact BK226.out) hb); have n2_ := Aside0.mk (below_step (by repeat (first | (with_reducible first | exact HB.out | apply below_alloc | apply pw_below_drewN | apply below_drew1 | refine below_set ?_ GE226.out) | exact HB.out)) hb); clear HO224; clear BK226; clear HB; have HO224 := n0_; have BK226 := n1_; have HB := n2_; clear n0_ n1_ n2_; (try clear hb); (try clear hb2); (try clear hk); (try clear hi)) | (go_at_call 16; (with_reducible refine (chicaneref14_Same.calls kj3 _ _ l0 _ _ l1 t229 _ ?side1 ?side2 ?side3 ?side4 A23.out).mono ?_); (case side1 => repeat (first | exact (Kd.C_below HR0.out HB.out) | (with_reducible refine Kd.C_alloc ?_ _) | (with_reducible refine Kd.C_drewN ?_ _) | (with_reducible refine Kd.C_drew ?_))); (case side2 => exact HC0.out); (case side3 => repeat (first | exact (Kd.C_below HR1.out HB.out) | (with_reducible refine Kd.C_alloc ?_ _) | (with_reducible refine Kd.C_drewN ?_ _) | (with_reducible refine Kd.C_drew ?_))); (case side4 => exact HC1.out); rintro e w29 ⟨rfl, hb⟩; have n0_ := Aside0.mk (Kd.R_below (by (with_reducible repeat (first | apply Kd.R_alloc | apply Kd.R_drewN | apply Kd.R_drew)); exact HO224.out) hb); have n1_ := Aside0.mk (blk_below (g := gb226) (o := .cells #[.string t219, .bool t220, .int .i64 t221, .slice Ao20 t222.length co20] 24 (0, 0)) (by (with_reducible repeat (first | refine blk_drewN ?_ _ | refine blk_drew ?_ | refine blk_alloc ?_ _)); exact BK226.out) hb); have n2_ := Aside0.mk (below_step (by repeat (first | (with_reducible first | exact HB.out | apply below_alloc | apply pw_below_drewN | apply below_drew1 | refine below_set ?_ GE226.out) | exact HB.out)) hb); clear HO224; clear BK226; clear HB; have HO224 := n0_; have BK226 := n1_; have HB := n2_; clear n0_ n1_ n2_; (try clear hb); (try clear hb2); (try clear hk); (try clear hi)) | (go_at_call 15; (with_reducible refine (names_Same.calls _ _ l0 _ _ l0 t230 _ ?side1 ?side2 ?side3 ?side4 A27.out).mono ?_); (case side1 => repeat (first | exact (Kd.C_below HR0.out HB.out) | (with_reducible refine Kd.C_alloc ?_ _) | (with_reducible refine Kd.C_drewN ?_ _) | (with_reducible refine Kd.C_drew ?_))); (case side2 => exact HC0.out); (case side3 => repeat (first | exact (Kd.C_below HR0.out HB.out) | (with_reducible refine Kd.C_alloc ?_ _) | (with_reducible refine Kd.C_drewN ?_ _) | (with_reducible refine Kd.C_drew ?_))); (case side4 => exact HC0.out); rintro e w30 ⟨rfl, hb⟩; have n0_ := Aside0.mk (Kd.R_below (by (with_reducible repeat (first | apply Kd.R_alloc | apply Kd.R_drewN | apply Kd.R_drew)); exact HO224.out) hb); have n1_ := Aside0.mk (blk_below (g := gb226) (o := .cells #[.string t219, .bool t220, .int .i64 t221, .slice Ao20 t222.length co20] 24 (0, 0)) (by (with_reducible repeat (first | refine blk_drewN ?_ _ | refine blk_drew ?_ | refine blk_alloc ?_ _)); exact BK226.out) hb); have n2_ := Aside0.mk (below_step (by repeat (first | (with_reducible first | exact HB.out | apply below_alloc | apply pw_below_drewN | apply below_drew1 | refine below_set ?_ GE226.out) | exact HB.out)) hb); clear HO224; clear BK226; clear HB; have HO224 := n0_; have BK226 := n1_; have HB := n2_; clear n0_ n1_ n2_; (try clear hb); (try clear hb2); (try clear hk); (try clear hi)))
              go_meet
              case rel => exact ⟨_, (!t230), (by first | rfl | (simp; done) | (simp [*]; done)), H', ⟨by have := HJ3.out; first | omega | exact Nat.le_refl _⟩, ⟨by (with_reducible repeat (first | apply Kd.R_alloc | apply Kd.R_drewN | apply Kd.R_drew)); exact HO224.out⟩, ⟨by (with_reducible repeat (first | refine blk_drewN ?_ _ | refine blk_drew ?_ | refine blk_alloc ?_ _)); exact BK226.out⟩, ⟨by repeat (first | (with_reducible first | exact HB.out | apply below_alloc | apply pw_below_drewN | apply below_drew1 | refine below_set ?_ GE226.out) | exact HB.out)⟩⟩
        case rest =>
          clear HC16
          try clear c1
          try clear c2
          try clear p2
          try clear c4
          try clear c6
          try clear c7
          try clear c8
          try clear c11
          try clear c13
          try clear c14
          try clear c21
          try clear c21b0
          try clear c21b1
          try clear c21b2
          try clear c21b3
          try clear c24
          try clear c24b0
          try clear c24b1
          try clear c24b2
          try clear c24b3
          try clear hcz19_0
          try clear hcz19_1
          try clear hcz19_2
          try clear hcz19_3
          try clear hfz19_0
          try clear hfz19_1
          try clear hfz19_2
          try clear hfz19_3
          try clear p2
          obtain ⟨kq, x46_15, rfl, HA, HJ15, HO_227003, BK226, HB⟩ := hcut
          cases kq with
          | zero => exact absurd HA.out (by simp [chicanelaw14_NamesFinds.j1])
          | succ kj15 =>
            have H := HA.out
            clear HA
            simp only [chicanelaw14_NamesFinds.j1] at H
            by_cases c31 : x46_15 = true
            · subst c31
              have H1 : (some false) = some r := by rw [if_pos rfl] at H; exact H
              clear H
              have H := H1
              clear H1
              exact absurd ((Option.some.inj H).trans hr) Bool.false_ne_true
            · replace c31 := Bool.eq_false_iff.mpr c31
              subst c31
              have H1 : (if t225 = true then ((chicanelaw14_alive.f kj15).bind fun t231 => (if t231 = true then (if 0 ≤ t227 then (if t227 ≤ (wrap64 (t227 + 1)) then (if (wrap64 (t227 + 1)) ≤ (l0.length : Int) then ((chicaneref14_Same.f kj15 (([(⟨t219, t220, t221, t222⟩ : S24)] : List (S24))) ((l0.take ((wrap64 (t227 + 1)) : Int).toNat).drop (t227 : Int).toNat)).bind fun t239 => (some t239)) else (none)) else (none)) else (none)) else (some false))) else ((chicanelaw14_alive.f kj15).bind fun t240 => (if t240 = true then ((chicaneref14_Same.f kj15 (([(⟨t219, t220, t221, t222⟩ : S24)] : List (S24))) (([(⟨(⟨#[]⟩ : ByteArray), false, 0, ([] : List (S39))⟩ : S24)] : List (S24)))).bind fun t247 => (some t247)) else (some false)))) = some r := by rw [if_neg (show ¬ (false = true) by decide)] at H; exact H
              clear H
              have H := H1
              clear H1
              by_cases c32 : t225 = true
              · subst c32
                have H1 : ((chicanelaw14_alive.f kj15).bind fun t231 => (if t231 = true then (if 0 ≤ t227 then (if t227 ≤ (wrap64 (t227 + 1)) then (if (wrap64 (t227 + 1)) ≤ (l0.length : Int) then ((chicaneref14_Same.f kj15 (([(⟨t219, t220, t221, t222⟩ : S24)] : List (S24))) ((l0.take ((wrap64 (t227 + 1)) : Int).toNat).drop (t227 : Int).toNat)).bind fun t239 => (some t239)) else (none)) else (none)) else (none)) else (some false))) = some r := by rw [if_pos rfl] at H; exact H
                clear H
                have H := H1
                clear H1
                replace H := Option.bind_eq_some_iff.mp H
                obtain ⟨t231, A330, H⟩ := H
                replace H : (if t231 = true then (if 0 ≤ t227 then (if t227 ≤ (wrap64 (t227 + 1)) then (if (wrap64 (t227 + 1)) ≤ (l0.length : Int) then ((chicaneref14_Same.f kj15 (([(⟨t219, t220, t221, t222⟩ : S24)] : List (S24))) ((l0.take ((wrap64 (t227 + 1)) : Int).toNat).drop (t227 : Int).toNat)).bind fun t239 => (some t239)) else (none)) else (none)) else (none)) else (some false)) = some r := H
                have A33 := Aside0.mk A330
                clear A330
                by_cases c34 : t231 = true
                · subst c34
                  have H1 : (if 0 ≤ t227 then (if t227 ≤ (wrap64 (t227 + 1)) then (if (wrap64 (t227 + 1)) ≤ (l0.length : Int) then ((chicaneref14_Same.f kj15 (([(⟨t219, t220, t221, t222⟩ : S24)] : List (S24))) ((l0.take ((wrap64 (t227 + 1)) : Int).toNat).drop (t227 : Int).toNat)).bind fun t239 => (some t239)) else (none)) else (none)) else (none)) = some r := by rw [if_pos rfl] at H; exact H
                  clear H
                  have H := H1
                  clear H1
                  obtain ⟨y232, hy232⟩ : ∃ y_ : List (S24), y_ = (([(⟨t219, t220, t221, t222⟩ : S24)] : List (S24))) := ⟨_, rfl⟩
                  replace H : (if 0 ≤ t227 then (if t227 ≤ (wrap64 (t227 + 1)) then (if (wrap64 (t227 + 1)) ≤ (l0.length : Int) then ((chicaneref14_Same.f kj15 y232 ((l0.take ((wrap64 (t227 + 1)) : Int).toNat).drop (t227 : Int).toNat)).bind fun t239 => (some t239)) else (none)) else (none)) else (none)) = some r := by first | (rw [hy232]; with_reducible exact H) | (have H2_ := (Option.bind_some _ _).symm.trans H; rw [hy232]; with_reducible exact H2_) | (have H2_ := (Option.bind_some _ _).symm.trans H; with_reducible exact H2_) | with_reducible exact H | (rw [hy232]; exact H) | exact H
                  have Ny232 := Aside0.mk hy232
                  clear hy232
                  by_cases c35 : 0 ≤ t227
                  · rw [if_pos c35] at H
                    have c35b0 := eq_true c35
                    have c35b1 : decide (0 ≤ t227) = true := decide_eq_true c35
                    clear c35
                    by_cases c36 : t227 ≤ (wrap64 (t227 + 1))
                    · rw [if_pos c36] at H
                      have c36b0 := eq_true c36
                      have c36b1 : decide (t227 ≤ (wrap64 (t227 + 1))) = true := decide_eq_true c36
                      by_cases c37 : (wrap64 (t227 + 1)) ≤ (l0.length : Int)
                      · rw [if_pos c37] at H
                        have c37b0 := eq_true c37
                        have c37b1 : decide ((wrap64 (t227 + 1)) ≤ (l0.length : Int)) = true := decide_eq_true c37
                        obtain ⟨y235, hy235⟩ : ∃ y_ : List (S24), y_ = ((l0.take ((wrap64 (t227 + 1)) : Int).toNat).drop (t227 : Int).toNat) := ⟨_, rfl⟩
                        replace H : ((chicaneref14_Same.f kj15 y232 y235).bind fun t239 => (some t239)) = some r := by first | (rw [hy235]; with_reducible exact H) | (have H2_ := (Option.bind_some _ _).symm.trans H; rw [hy235]; with_reducible exact H2_) | (have H2_ := (Option.bind_some _ _).symm.trans H; with_reducible exact H2_) | with_reducible exact H | (rw [hy235]; exact H) | exact H
                        have Ny235 := Aside0.mk hy235
                        clear hy235
                        replace H := Option.bind_eq_some_iff.mp H
                        obtain ⟨t239, A380, H⟩ := H
                        replace H : (some t239) = some r := H
                        have A38 := Aside0.mk A380
                        clear A380
                        obtain rfl := Option.some.inj H
                        try go_wp2
                        have n0_ := Aside0.mk (Kd.R_drew HO_227003.out)
                        have n1_ := Aside0.mk (blk_drew BK226.out)
                        have n2_ := Aside0.mk (below_drew1 HB.out)
                        clear HO_227003
                        clear BK226
                        clear HB
                        have HO_227003 := n0_
                        have BK226 := n1_
                        have HB := n2_
                        clear n0_ n1_ n2_
                        refine start_ (n := 12) (S := fun w' => w'.cell? ⟨gb226, 0, none⟩ = some (.string t219) ∧ w'.cell? ⟨gb226, 1, none⟩ = some (.bool t220) ∧ w'.cell? ⟨gb226, 2, none⟩ = some (.int .i64 t221) ∧ w'.cell? ⟨gb226, 3, none⟩ = some (.slice Ao20 t222.length co20)) (ds := []) #[false, false, false, false, false, false, false, false, false, false, false, false] (by kernel_rfl) rfl rfl ⟨(blk_cell BK226.out 0).trans rfl, (blk_cell BK226.out 1).trans rfl, (blk_cell BK226.out 2).trans rfl, (blk_cell BK226.out 3).trans rfl⟩ (fun hHeld => ?_); refine with_tabW chicanelaw14_NamesFinds.tab9 chicanelaw14_NamesFinds.bits9 (fun HT_ HW_ => ?_)
                        generalize wc.drew = w39 at HO_227003 BK226 HB hHeld ⊢
                        refine one_ (i := 0) (N := some 57) #[true, false, false, false, false, false, false, false, false, false, false, false] rfl rfl (one_of HT_.out (by kernel_rfl)) (by decide) (fun K hK => ?_)
                        refine goes_ Try.func8 (by kernel_rfl) rfl #[] (by rfl) rfl rfl (by (try simp only [List.map_toArray, List.map_cons, List.map_nil]); first | done | rfl | (simp only [List.length_drop, List.length_take]; rfl)) ?_
                        with_reducible refine (chicanelaw14_alive.calls kj15  true _ A33.out).mono ?_
                        rintro e w40 ⟨rfl, hb⟩
                        refine ⟨_, rfl, ?_⟩
                        have n0_ := Aside0.mk (Kd.R_below (by (with_reducible repeat (first | apply Kd.R_alloc | apply Kd.R_drewN | apply Kd.R_drew)); exact HO_227003.out) hb)
                        have n1_ := Aside0.mk (blk_below (g := gb226) (o := .cells #[.string t219, .bool t220, .int .i64 t221, .slice Ao20 t222.length co20] 24 (0, 0)) (by (with_reducible repeat (first | refine blk_drewN ?_ _ | refine blk_drew ?_ | refine blk_alloc ?_ _)); exact BK226.out) hb)
                        have n2_ := Aside0.mk (below_step (by repeat (first | (with_reducible first | exact HB.out | apply below_alloc | apply pw_below_drewN | apply below_drew1 | refine below_set ?_ GE226.out) | exact HB.out)) hb)
                        clear HO_227003
                        clear BK226
                        clear HB
                        have HO_227003 := n0_
                        have BK226 := n1_
                        have HB := n2_
                        clear n0_ n1_ n2_
                        (try clear hb)
                        (try clear hb2)
                        (try clear hk)
                        (try clear hi)
                        refine hK.out _ _ ⟨(blk_cell BK226.out 0).trans rfl, (blk_cell BK226.out 1).trans rfl, (blk_cell BK226.out 2).trans rfl, (blk_cell BK226.out 3).trans rfl⟩ (fun hHeld => ?_)
                        clear hK K
                        refine norm_ (a' := ?_) ?_ ?_
                        rotate_left
                        · show Act.put _ (some 57) _ = _
                          simp only [Act.put, List.setIfInBounds_toArray, List.set_cons_zero, List.set_cons_succ, i64_w, i32_w]
                          rfl
                        refine pure_ (i := 1) (N := some 58) (v := ?_) (a' := ?_) #[true, true, false, false, false, false, false, false, false, false, false, false] rfl rfl (any_of HT_.out (by kernel_rfl)) (fun _ _ _ h => h) (Or.inl ⟨by rfl, ?_⟩) ?_ ?_
                        rotate_left
                        · intro w'
                          go_simp
                          with_reducible rfl
                        rotate_left
                        · simp only [Act.put, List.setIfInBounds_toArray, List.set_cons_zero, List.set_cons_succ, i64_w, i32_w]
                          rfl
                        refine pure_ (i := 4) (N := some 61) (v := ?_) (a' := ?_) #[true, true, false, false, true, false, false, false, false, false, false, false] rfl rfl (any_of HT_.out (by kernel_rfl)) (fun _ _ _ h => h) (Or.inl ⟨by rfl, ?_⟩) ?_ ?_
                        rotate_left
                        · intro w'
                          go_simp
                          with_reducible rfl
                        rotate_left
                        · simp only [Act.put, List.setIfInBounds_toArray, List.set_cons_zero, List.set_cons_succ, i64_w, i32_w]
                          rfl
                        refine pure_ (i := 5) (N := some 62) (v := ?_) (a' := ?_) #[true, true, false, false, true, true, false, false, false, false, false, false] rfl rfl (any_of HT_.out (by kernel_rfl)) (fun _ _ _ h => h) (Or.inl ⟨by rfl, ?_⟩) ?_ ?_
                        rotate_left
                        · intro w'
                          go_simp
                          with_reducible rfl
                        rotate_left
                        · simp only [Act.put, List.setIfInBounds_toArray, List.set_cons_zero, List.set_cons_succ, i64_w, i32_w]
                          rfl
                        refine pure_ (i := 6) (N := some 63) (v := ?_) (a' := ?_) #[true, true, false, false, true, true, true, false, false, false, false, false] rfl rfl (any_of HT_.out (by kernel_rfl)) (fun _ _ _ h => h) (Or.inl ⟨by rfl, ?_⟩) ?_ ?_
                        rotate_left
                        · intro w'
                          go_simp
                          with_reducible rfl
                        rotate_left
                        · simp only [Act.put, List.setIfInBounds_toArray, List.set_cons_zero, List.set_cons_succ, i64_w, i32_w]
                          rfl
                        refine pure_ (i := 7) (N := some 64) (v := ?_) (a' := ?_) #[true, true, false, false, true, true, true, true, false, false, false, false] rfl rfl (any_of HT_.out (by kernel_rfl)) (fun _ _ _ h => h) (Or.inl ⟨by rfl, ?_⟩) ?_ ?_
                        rotate_left
                        · intro w'
                          go_simp
                          with_reducible rfl
                        rotate_left
                        · simp only [Act.put, List.setIfInBounds_toArray, List.set_cons_zero, List.set_cons_succ, i64_w, i32_w]
                          rfl
                        have q43 : ((wrap64 (t227 + 1)) : Int) ≤ ((l0.length : Int) : Int) := of_decide_eq_true (by first | (with_reducible assumption) | assumption)
                        obtain ⟨i043, hi043, _, hsz43, _⟩ := info_parts info24
                        have hroom43 : l0.length ≤ c0 := HC0.out
                        have hC43 : Kd.C k24 _ A0 l0.length l0 := HR0.out
                        have ql43 : (t227 : Int) ≤ ((wrap64 (t227 + 1)) : Int) := of_decide_eq_true (by first | (with_reducible assumption) | assumption)
                        have q043 : (0 : Int) ≤ (t227 : Int) := of_decide_eq_true (by first | (with_reducible assumption) | assumption)
                        have hcut43 := cut_mid (P := Try.prog) 26 24 .i64 .i64 Try.underlying26 hi043 4 hsz43 A0 l0.length c0 t227 (wrap64 (t227 + 1)) q043 ql43 q43 hroom43
                        have hr43 := Kd.C_mid (lo := (t227 : Int).toNat) (hi := ((wrap64 (t227 + 1)) : Int).toNat) (c := c0) hC43 (by omega) (by omega) hroom43
                        obtain ⟨A43, hA43⟩ : ∃ A1, A1 = (if c0 = (t227 : Int).toNat then A0 else (A0 : Option Addr).map (·.add ((t227 : Int).toNat * 4))) := ⟨_, rfl⟩
                        obtain ⟨c43, hc43⟩ : ∃ c1, c1 = c0 - (t227 : Int).toNat := ⟨_, rfl⟩
                        have hy43 : y235.length = ((wrap64 (t227 + 1)) : Int).toNat - (t227 : Int).toNat := (by rw [Ny235.out, List.length_drop, List.length_take] <;> omega)
                        rw [show ((l0).take ((wrap64 (t227 + 1)) : Int).toNat).drop (t227 : Int).toNat = y235 from Ny235.out.symm] at hr43
                        replace hr43 : Kd.C k24 _ A43 y235.length y235 := (by rw [hA43]; exact hr43)
                        rw [← hy43, ← hA43, ← hc43] at hcut43
                        have HR238 := Aside0.mk hr43
                        have HC238 := Aside0.mk (show y235.length ≤ c43 from by rw [hy43, hc43]; exact Nat.sub_le_sub_right (Nat.le_trans (by omega) hroom43) _)
                        clear hr43 hC43 hroom43 hi043 hsz43
                        have KY43 := Aside0.mk hy43
                        have KA43 := Aside0.mk hA43
                        clear hy43 hA43
                        have KC43X := Aside0.mk hc43
                        clear hc43
                        have hroomX := HC0.out
                        refine pure_ (i := 8) (N := some 65) (v := ?_) (a' := ?_) #[true, true, false, false, true, true, true, true, true, false, false, false] rfl rfl (any_of HT_.out (by kernel_rfl)) (fun _ _ _ h => h) (Or.inl ⟨by rfl, ?_⟩) ?_ ?_
                        rotate_left
                        · intro w'
                          go_simp
                          with_reducible rfl
                        rotate_left
                        · simp only [Act.put, List.setIfInBounds_toArray, List.set_cons_zero, List.set_cons_succ, i64_w, i32_w]
                          rfl
                        refine take_ (i := 2) (N := some 59) (v := ?_) (a' := ?_) #[true, true, true, false, true, true, true, true, true, false, false, false] rfl rfl (take_ofW HT_.out HW_.out (by kernel_rfl)) (fun _ _ _ h => h) (Or.inl ⟨by rfl, ?_⟩) hHeld ?_ ?_
                        rotate_left
                        · rintro w' ⟨s0, s1, s2, s3⟩
                          go_simp
                          with_reducible rfl
                        rotate_left
                        · simp only [Act.put, List.setIfInBounds_toArray, List.set_cons_zero, List.set_cons_succ, i64_w, i32_w]
                          rfl
                        refine one_ (i := 3) (N := some 60) #[true, true, true, true, true, true, true, true, true, false, false, false] rfl rfl (one_of HT_.out (by kernel_rfl)) (by decide) (fun K hK => ?_)
                        refine Kd.N_lit_step k24 _ 24 ?hg (N' := 60) ?hd (xs := ([(⟨t219, t220, t221, t222⟩ : S24)] : List (S24))) (inner := [.string t219, .bool t220, .int .i64 t221, .slice Ao20 t222.length co20]) (ok := (fun k_ => k_ ≠ gb226)) (okp := (fun k_ => k_ ≠ gb226)) ?hr ?hp (fun _ hk => hk) ((show ∀ k_, w40.heap.size ≤ k_ → (fun k_ => k_ ≠ gb226) k_ from fun k_ hk => Kd.freshB (g := gb226) (o := .cells #[.string t219, .bool t220, .int .i64 t221, .slice Ao20 t222.length co20] 24 (0, 0)) (by (with_reducible repeat (first | refine blk_drewN ?_ _ | refine blk_drew ?_ | refine blk_alloc ?_ _)); exact BK226.out) k_ hk) _ (Nat.le_refl _)) (Below.refl _ _) (Nat.le_refl _) (by simp) ?_; (case hd => rfl); (case hg => rfl); (case hr => first | (go_simp; done) | (go_simp; rfl)); (case hp => exact (Reps.c4 (show Kd.FK k24 _ _ (⟨t219, t220, t221, t222⟩ : S24) [.string t219, .bool t220, .int .i64 t221, .slice Ao20 t222.length co20] from (k24_mkF _ _ (⟨t219, t220, t221, t222⟩ : S24) (Kd.R_reads' (Kd.R_mono (ok' := (fun k_ => k_ ≠ gb226)) (Kd.R_types (HO_227003.out) BK226.out (by decide)) (fun k_ hk => hk.2))).2.1 (Kd.R_F (Kd.R_mono (ok' := (fun k_ => k_ ≠ gb226)) (Kd.R_types (HO_227003.out) BK226.out (by decide)) (fun k_ hk => hk.2))))) (Reps.none _ _)))
                        intro v233 w41 ho42 hb hg_ hnew_
                        clear hg_ hnew_
                        (first | rw [← Ny232.out] at ho42 | (simp only [Int.reduceToNat] at ho42; rw [← Ny232.out] at ho42))
                        have n0_ := Aside0.mk (Kd.N_lower ho42 (below_size (by repeat (first | (with_reducible first | exact HB.out | apply below_alloc | apply pw_below_drewN | apply below_drew1 | refine below_set ?_ GE226.out) | exact HB.out))))
                        have n1_ := Aside0.mk (blk_below (g := gb226) (o := .cells #[.string t219, .bool t220, .int .i64 t221, .slice Ao20 t222.length co20] 24 (0, 0)) (by (with_reducible repeat (first | refine blk_drewN ?_ _ | refine blk_drew ?_ | refine blk_alloc ?_ _)); exact BK226.out) hb)
                        have n2_ := Aside0.mk (below_step (by repeat (first | (with_reducible first | exact HB.out | apply below_alloc | apply pw_below_drewN | apply below_drew1 | refine below_set ?_ GE226.out) | exact HB.out)) hb)
                        clear BK226
                        clear HB
                        clear HO_227003
                        have HO234 := n0_
                        have BK226 := n1_
                        have HB := n2_
                        clear n0_ n1_ n2_
                        clear hb ho42
                        obtain ⟨Ao44, co44, eo44⟩ := Kd.N_slice HO234.out
                        (first | subst eo44 | (injection eo44 with f1_ f2_ f3_; have f4_ := f1_.symm; have f5_ := f3_.symm; clear f1_ f2_ f3_; subst f4_; subst f5_))
                        refine hK.out _ _ ⟨(blk_cell BK226.out 0).trans rfl, (blk_cell BK226.out 1).trans rfl, (blk_cell BK226.out 2).trans rfl, (blk_cell BK226.out 3).trans rfl⟩ (fun hHeld => ?_)
                        clear hK K
                        refine norm_ (a' := ?_) ?_ ?_
                        rotate_left
                        · show Act.put _ (some 60) _ = _
                          simp only [Act.put, List.setIfInBounds_toArray, List.set_cons_zero, List.set_cons_succ, i64_w, i32_w]
                          rfl
                        refine one_ (i := 9) (N := some 66) #[true, true, true, true, true, true, true, true, true, true, false, false] rfl rfl (one_of HT_.out (by kernel_rfl)) (by decide) (fun K hK => ?_)
                        refine goes_ Try.func16 (by kernel_rfl) rfl #[.slice Ao44 y232.length co44, .slice A43 y235.length c43] (by rfl) rfl rfl (by (try simp only [List.map_toArray, List.map_cons, List.map_nil]); first | done | rfl | (simp only [List.length_drop, List.length_take]; rfl)) ?_
                        with_reducible refine (chicaneref14_Same.calls kj15 _ _ y232 _ _ y235 t239 _ ?side1 ?side2 ?side3 ?side4 A38.out).mono ?_
                        (case side1 => repeat (first | exact (Kd.N_reads' HO234.out).2.2 | (with_reducible refine Kd.C_alloc ?_ _) | (with_reducible refine Kd.C_drewN ?_ _) | (with_reducible refine Kd.C_drew ?_)))
                        (case side2 => exact (Kd.N_reads' HO234.out).2.1)
                        (case side3 => repeat (first | exact (Kd.C_below HR238.out HB.out) | (with_reducible refine Kd.C_alloc ?_ _) | (with_reducible refine Kd.C_drewN ?_ _) | (with_reducible refine Kd.C_drew ?_)))
                        (case side4 => exact HC238.out)
                        rintro e w45 ⟨rfl, hb⟩
                        refine ⟨_, rfl, ?_⟩
                        have n0_ := Aside0.mk (Kd.N_below (by (with_reducible repeat (first | apply Kd.N_alloc | apply Kd.N_drewN | apply Kd.N_drew)); exact HO234.out) hb)
                        have n1_ := Aside0.mk (blk_below (g := gb226) (o := .cells #[.string t219, .bool t220, .int .i64 t221, .slice Ao20 t222.length co20] 24 (0, 0)) (by (with_reducible repeat (first | refine blk_drewN ?_ _ | refine blk_drew ?_ | refine blk_alloc ?_ _)); exact BK226.out) hb)
                        have n2_ := Aside0.mk (below_step (by repeat (first | (with_reducible first | exact HB.out | apply below_alloc | apply pw_below_drewN | apply below_drew1 | refine below_set ?_ GE226.out) | exact HB.out)) hb)
                        clear HO234
                        clear BK226
                        clear HB
                        have HO234 := n0_
                        have BK226 := n1_
                        have HB := n2_
                        clear n0_ n1_ n2_
                        (try clear hb)
                        (try clear hb2)
                        (try clear hk)
                        (try clear hi)
                        refine hK.out _ _ ⟨(blk_cell BK226.out 0).trans rfl, (blk_cell BK226.out 1).trans rfl, (blk_cell BK226.out 2).trans rfl, (blk_cell BK226.out 3).trans rfl⟩ (fun hHeld => ?_)
                        clear hK K
                        refine norm_ (a' := ?_) ?_ ?_
                        rotate_left
                        · show Act.put _ (some 66) _ = _
                          simp only [Act.put, List.setIfInBounds_toArray, List.set_cons_zero, List.set_cons_succ, i64_w, i32_w]
                          rfl
                        refine pure_ (i := 10) (N := some 67) (v := ?_) (a' := ?_) #[true, true, true, true, true, true, true, true, true, true, true, false] rfl rfl (any_of HT_.out (by kernel_rfl)) (fun _ _ _ h => h) (Or.inl ⟨by rfl, ?_⟩) ?_ ?_
                        rotate_left
                        · intro w'
                          go_simp
                          with_reducible rfl
                        rotate_left
                        · simp only [Act.put, List.setIfInBounds_toArray, List.set_cons_zero, List.set_cons_succ, i64_w, i32_w]
                          rfl
                        refine pure_ (i := 11) (N := some 6) (v := ?_) (a' := ?_) #[true, true, true, true, true, true, true, true, true, true, true, true] rfl rfl (any_of HT_.out (by kernel_rfl)) (fun _ _ _ h => h) (Or.inl ⟨by rfl, ?_⟩) ?_ ?_
                        rotate_left
                        · intro w'
                          go_simp
                          with_reducible rfl
                        rotate_left
                        · simp only [Act.put, List.setIfInBounds_toArray, List.set_cons_zero, List.set_cons_succ, i64_w, i32_w]
                          rfl
                        refine done_ (done_of HT_.out (by kernel_rfl)) ?_
                        try go_wp2
                        go_ret
                        exact ⟨by first | rfl | (simp [errW_none, errW_some] <;> rfl) | (simp [*, errW_none, errW_some] <;> rfl), by repeat (first | (with_reducible first | exact HB.out | apply below_alloc | apply pw_below_drewN | apply below_drew1 | refine below_set ?_ GE226.out) | exact HB.out)⟩
                      · rw [if_neg c37] at H
                        exact absurd H (by simp)
                    · rw [if_neg c36] at H
                      exact absurd H (by simp)
                  · rw [if_neg c35] at H
                    exact absurd H (by simp)
                · replace c34 := Bool.eq_false_iff.mpr c34
                  subst c34
                  have H1 : (some false) = some r := by rw [if_neg (show ¬ (false = true) by decide)] at H; exact H
                  clear H
                  have H := H1
                  clear H1
                  exact absurd ((Option.some.inj H).trans hr) Bool.false_ne_true
              · replace c32 := Bool.eq_false_iff.mpr c32
                subst c32
                have H1 : ((chicanelaw14_alive.f kj15).bind fun t240 => (if t240 = true then ((chicaneref14_Same.f kj15 (([(⟨t219, t220, t221, t222⟩ : S24)] : List (S24))) (([(⟨(⟨#[]⟩ : ByteArray), false, 0, ([] : List (S39))⟩ : S24)] : List (S24)))).bind fun t247 => (some t247)) else (some false))) = some r := by rw [if_neg (show ¬ (false = true) by decide)] at H; exact H
                clear H
                have H := H1
                clear H1
                replace H := Option.bind_eq_some_iff.mp H
                obtain ⟨t240, A480, H⟩ := H
                replace H : (if t240 = true then ((chicaneref14_Same.f kj15 (([(⟨t219, t220, t221, t222⟩ : S24)] : List (S24))) (([(⟨(⟨#[]⟩ : ByteArray), false, 0, ([] : List (S39))⟩ : S24)] : List (S24)))).bind fun t247 => (some t247)) else (some false)) = some r := H
                have A48 := Aside0.mk A480
                clear A480
                by_cases c49 : t240 = true
                · subst c49
                  have H1 : ((chicaneref14_Same.f kj15 (([(⟨t219, t220, t221, t222⟩ : S24)] : List (S24))) (([(⟨(⟨#[]⟩ : ByteArray), false, 0, ([] : List (S39))⟩ : S24)] : List (S24)))).bind fun t247 => (some t247)) = some r := by rw [if_pos rfl] at H; exact H
                  clear H
                  have H := H1
                  clear H1
                  obtain ⟨y241, hy241⟩ : ∃ y_ : List (S24), y_ = (([(⟨t219, t220, t221, t222⟩ : S24)] : List (S24))) := ⟨_, rfl⟩
                  replace H : ((chicaneref14_Same.f kj15 y241 (([(⟨(⟨#[]⟩ : ByteArray), false, 0, ([] : List (S39))⟩ : S24)] : List (S24)))).bind fun t247 => (some t247)) = some r := by first | (rw [hy241]; with_reducible exact H) | (have H2_ := (Option.bind_some _ _).symm.trans H; rw [hy241]; with_reducible exact H2_) | (have H2_ := (Option.bind_some _ _).symm.trans H; with_reducible exact H2_) | with_reducible exact H | (rw [hy241]; exact H) | exact H
                  have Ny241 := Aside0.mk hy241
                  clear hy241
                  obtain ⟨y244, hy244⟩ : ∃ y_ : List (S24), y_ = (([(⟨(⟨#[]⟩ : ByteArray), false, 0, ([] : List (S39))⟩ : S24)] : List (S24))) := ⟨_, rfl⟩
                  replace H : ((chicaneref14_Same.f kj15 y241 y244).bind fun t247 => (some t247)) = some r := by first | (rw [hy244]; with_reducible exact H) | (have H2_ := (Option.bind_some _ _).symm.trans H; rw [hy244]; with_reducible exact H2_) | (have H2_ := (Option.bind_some _ _).symm.trans H; with_reducible exact H2_) | with_reducible exact H | (rw [hy244]; exact H) | exact H
                  have Ny244 := Aside0.mk hy244
                  clear hy244
                  replace H := Option.bind_eq_some_iff.mp H
                  obtain ⟨t247, A500, H⟩ := H
                  replace H : (some t247) = some r := H
                  have A50 := Aside0.mk A500
                  clear A500
                  obtain rfl := Option.some.inj H
                  go_wp2_with (first | ((with_reducible refine gate_callee (f := 8) rfl ?_); refine goesL_ (some 49) rfl rfl Try.func8 (by kernel_rfl) rfl #[] rfl (by (try simp only [List.map_toArray, List.map_cons, List.map_nil]); first | done | rfl | (simp only [List.length_drop, List.length_take]; rfl)) ?_; (with_reducible refine (chicanelaw14_alive.calls kj15  true _ A48.out).mono ?_); rintro e w51 ⟨rfl, hb⟩; refine ⟨_, rfl, ?_⟩; have n0_ := Aside0.mk (Kd.R_below (by (with_reducible repeat (first | apply Kd.R_alloc | apply Kd.R_drewN | apply Kd.R_drew)); exact HO_227003.out) hb); have n1_ := Aside0.mk (blk_below (g := gb226) (o := .cells #[.string t219, .bool t220, .int .i64 t221, .slice Ao20 t222.length co20] 24 (0, 0)) (by (with_reducible repeat (first | refine blk_drewN ?_ _ | refine blk_drew ?_ | refine blk_alloc ?_ _)); exact BK226.out) hb); have n2_ := Aside0.mk (below_step (by repeat (first | (with_reducible first | exact HB.out | apply below_alloc | apply pw_below_drewN | apply below_drew1 | refine below_set ?_ GE226.out) | exact HB.out)) hb); clear HO_227003; clear BK226; clear HB; have HO_227003 := n0_; have BK226 := n1_; have HB := n2_; clear n0_ n1_ n2_; (try clear hb); (try clear hb2); (try clear hk); (try clear hi); have hcz52_0 : w51.cell? ⟨gb226, 0, none⟩ = some (.string t219) := (blk_cell BK226.out 0).trans rfl; have hcz52_1 : w51.cell? ⟨gb226, 1, none⟩ = some (.bool t220) := (blk_cell BK226.out 1).trans rfl; have hcz52_2 : w51.cell? ⟨gb226, 2, none⟩ = some (.int .i64 t221) := (blk_cell BK226.out 2).trans rfl; have hcz52_3 : w51.cell? ⟨gb226, 3, none⟩ = some (.slice Ao20 t222.length co20) := (blk_cell BK226.out 3).trans rfl; have hfz52_0 := blk_frozen BK226.out 0; have hfz52_1 := blk_frozen BK226.out 1; have hfz52_2 := blk_frozen BK226.out 2; have hfz52_3 := blk_frozen BK226.out 3) | ((with_reducible refine gate_dst (N := 52) rfl ?_); (try (refine gate_guard (by rfl) ?_; dsimp only)); refine Kd.N_lit k24 _ 24 ?hg (N' := 52) ?hd (xs := ([(⟨t219, t220, t221, t222⟩ : S24)] : List (S24))) (inner := [.string t219, .bool t220, .int .i64 t221, .slice Ao20 t222.length co20]) (ok := (fun k_ => k_ ≠ gb226)) (okp := (fun k_ => k_ ≠ gb226)) ?hr ?hp (fun _ hk => hk) ((show ∀ k_, w51.heap.size ≤ k_ → (fun k_ => k_ ≠ gb226) k_ from fun k_ hk => Kd.freshB (g := gb226) (o := .cells #[.string t219, .bool t220, .int .i64 t221, .slice Ao20 t222.length co20] 24 (0, 0)) (by (with_reducible repeat (first | refine blk_drewN ?_ _ | refine blk_drew ?_ | refine blk_alloc ?_ _)); exact BK226.out) k_ hk) _ (Nat.le_refl _)) (Below.refl _ _) (Nat.le_refl _) (by simp) ?_; (case hd => rfl); (case hg => rfl); (case hr => first | (go_simp; done) | (go_simp; rfl)); (case hp => exact (Reps.c4 (show Kd.FK k24 _ _ (⟨t219, t220, t221, t222⟩ : S24) [.string t219, .bool t220, .int .i64 t221, .slice Ao20 t222.length co20] from (k24_mkF _ _ (⟨t219, t220, t221, t222⟩ : S24) (Kd.R_reads' (Kd.R_mono (ok' := (fun k_ => k_ ≠ gb226)) (Kd.R_types (HO_227003.out) BK226.out (by decide)) (fun k_ hk => hk.2))).2.1 (Kd.R_F (Kd.R_mono (ok' := (fun k_ => k_ ≠ gb226)) (Kd.R_types (HO_227003.out) BK226.out (by decide)) (fun k_ hk => hk.2))))) (Reps.none _ _))); intro v242 w53 ho54 hb hg_ hnew_; clear hg_ hnew_; (first | rw [← Ny241.out] at ho54 | (simp only [Int.reduceToNat] at ho54; rw [← Ny241.out] at ho54)); have n0_ := Aside0.mk (Kd.N_lower ho54 (below_size (by repeat (first | (with_reducible first | exact HB.out | apply below_alloc | apply pw_below_drewN | apply below_drew1 | refine below_set ?_ GE226.out) | exact HB.out)))); have n1_ := Aside0.mk (blk_below (g := gb226) (o := .cells #[.string t219, .bool t220, .int .i64 t221, .slice Ao20 t222.length co20] 24 (0, 0)) (by (with_reducible repeat (first | refine blk_drewN ?_ _ | refine blk_drew ?_ | refine blk_alloc ?_ _)); exact BK226.out) hb); have n2_ := Aside0.mk (below_step (by repeat (first | (with_reducible first | exact HB.out | apply below_alloc | apply pw_below_drewN | apply below_drew1 | refine below_set ?_ GE226.out) | exact HB.out)) hb); clear BK226; clear HB; clear HO_227003; have HO243 := n0_; have BK226 := n1_; have HB := n2_; clear n0_ n1_ n2_; clear hb ho54) | ((with_reducible refine gate_dst (N := 54) rfl ?_); (try (refine gate_guard (by rfl) ?_; dsimp only)); refine Kd.N_lit k24 _ 24 ?hg (N' := 54) ?hd (xs := ([(⟨(⟨#[]⟩ : ByteArray), false, 0, ([] : List (S39))⟩ : S24)] : List (S24))) (inner := [.string (⟨#[]⟩ : ByteArray), .bool false, .int .i64 0, .slice none 0 0]) (ok := (fun k_ => some k_ ≠ (v242 : Value).ownBlock ∧ k_ ≠ gb226)) (okp := (fun k_ => some k_ ≠ (v242 : Value).ownBlock ∧ k_ ≠ gb226)) ?hr ?hp (fun _ hk => hk) ((show ∀ k_, w53.heap.size ≤ k_ → (fun k_ => some k_ ≠ (v242 : Value).ownBlock ∧ k_ ≠ gb226) k_ from fun k_ hk => ⟨Kd.fresh' (Kd.N_lt (by (with_reducible repeat (first | apply Kd.N_alloc | apply Kd.N_drewN | apply Kd.N_drew)); exact HO243.out)) k_ hk, Kd.freshB (g := gb226) (o := .cells #[.string t219, .bool t220, .int .i64 t221, .slice Ao20 t222.length co20] 24 (0, 0)) (by (with_reducible repeat (first | refine blk_drewN ?_ _ | refine blk_drew ?_ | refine blk_alloc ?_ _)); exact BK226.out) k_ hk⟩) _ (Nat.le_refl _)) (Below.refl _ _) (Nat.le_refl _) (by simp) ?_; (case hd => rfl); (case hg => rfl); (case hr => first | (go_simp; done) | (go_simp; rfl)); (case hp => exact (Reps.c4 (show Kd.FK k24 _ _ (⟨(⟨#[]⟩ : ByteArray), false, 0, ([] : List (S39))⟩ : S24) [.string (⟨#[]⟩ : ByteArray), .bool false, .int .i64 0, .slice none 0 0] from (k24_mkF _ _ (⟨(⟨#[]⟩ : ByteArray), false, 0, ([] : List (S39))⟩ : S24) (Nat.le_refl _) (Kd.F_nil _ _ _))) (Reps.none _ _))); intro v245 w55 ho56 hb hg_ hnew_; clear hg_ hnew_; (first | rw [← Ny244.out] at ho56 | (simp only [Int.reduceToNat] at ho56; rw [← Ny244.out] at ho56)); have n0_ := Aside0.mk (Kd.N_elder' (by (with_reducible repeat (first | apply Kd.N_alloc | apply Kd.N_drewN | apply Kd.N_drew)); exact HO243.out) (Kd.N_base ho56) hb); have n1_ := Aside0.mk (Kd.N_lower ho56 (below_size (by repeat (first | (with_reducible first | exact HB.out | apply below_alloc | apply pw_below_drewN | apply below_drew1 | refine below_set ?_ GE226.out) | exact HB.out)))); have n2_ := Aside0.mk (blk_below (g := gb226) (o := .cells #[.string t219, .bool t220, .int .i64 t221, .slice Ao20 t222.length co20] 24 (0, 0)) (by (with_reducible repeat (first | refine blk_drewN ?_ _ | refine blk_drew ?_ | refine blk_alloc ?_ _)); exact BK226.out) hb); have n3_ := Aside0.mk (below_step (by repeat (first | (with_reducible first | exact HB.out | apply below_alloc | apply pw_below_drewN | apply below_drew1 | refine below_set ?_ GE226.out) | exact HB.out)) hb); clear HO243; clear BK226; clear HB; have HO243 := n0_; have HO246 := n1_; have BK226 := n2_; have HB := n3_; clear n0_ n1_ n2_ n3_; clear hb ho56; obtain ⟨Ao57, co57, eo57⟩ := Kd.N_slice HO243.out; subst eo57; obtain ⟨Ao58, co58, eo58⟩ := Kd.N_slice HO246.out; subst eo58) | (go_at_call 16; (with_reducible refine (chicaneref14_Same.calls kj15 _ _ y241 _ _ y244 t247 _ ?side1 ?side2 ?side3 ?side4 A50.out).mono ?_); (case side1 => repeat (first | exact (Kd.N_reads' HO243.out).2.2 | (with_reducible refine Kd.C_alloc ?_ _) | (with_reducible refine Kd.C_drewN ?_ _) | (with_reducible refine Kd.C_drew ?_))); (case side2 => exact (Kd.N_reads' HO243.out).2.1); (case side3 => repeat (first | exact (Kd.N_reads' HO246.out).2.2 | (with_reducible refine Kd.C_alloc ?_ _) | (with_reducible refine Kd.C_drewN ?_ _) | (with_reducible refine Kd.C_drew ?_))); (case side4 => exact (Kd.N_reads' HO246.out).2.1); rintro e w59 ⟨rfl, hb⟩; have n0_ := Aside0.mk (Kd.N_below (by (with_reducible repeat (first | apply Kd.N_alloc | apply Kd.N_drewN | apply Kd.N_drew)); exact HO243.out) hb); have n1_ := Aside0.mk (Kd.N_below (by (with_reducible repeat (first | apply Kd.N_alloc | apply Kd.N_drewN | apply Kd.N_drew)); exact HO246.out) hb); have n2_ := Aside0.mk (blk_below (g := gb226) (o := .cells #[.string t219, .bool t220, .int .i64 t221, .slice Ao20 t222.length co20] 24 (0, 0)) (by (with_reducible repeat (first | refine blk_drewN ?_ _ | refine blk_drew ?_ | refine blk_alloc ?_ _)); exact BK226.out) hb); have n3_ := Aside0.mk (below_step (by repeat (first | (with_reducible first | exact HB.out | apply below_alloc | apply pw_below_drewN | apply below_drew1 | refine below_set ?_ GE226.out) | exact HB.out)) hb); clear HO243; clear HO246; clear BK226; clear HB; have HO243 := n0_; have HO246 := n1_; have BK226 := n2_; have HB := n3_; clear n0_ n1_ n2_ n3_; (try clear hb); (try clear hb2); (try clear hk); (try clear hi)))
                  go_ret
                  exact ⟨by first | rfl | (simp [errW_none, errW_some] <;> rfl) | (simp [*, errW_none, errW_some] <;> rfl), by repeat (first | (with_reducible first | exact HB.out | apply below_alloc | apply pw_below_drewN | apply below_drew1 | refine below_set ?_ GE226.out) | exact HB.out)⟩
                · replace c49 := Bool.eq_false_iff.mpr c49
                  subst c49
                  have H1 : (some false) = some r := by rw [if_neg (show ¬ (false = true) by decide)] at H; exact H
                  clear H
                  have H := H1
                  clear H1
                  exact absurd ((Option.some.inj H).trans hr) Bool.false_ne_true
end Go.Proofs.Ytlglbpjccpdloaa.PNamA
set_option linter.unusedVariables false
set_option linter.unusedSimpArgs false
namespace Go.Proofs.Ytlglbpjccpdloaa.Ext
open Go.RowKit Go.Proofs.Ytlglbpjccpdloaa.PNamA Go.Proofs.Ytlglbpjccpdloaa.Tox Go.Proofs.Ytlglbpjccpdloaa.ToxZ Go.Proofs.Ytlglbpjccpdloaa.NmLaw Go.Proofs.YtlglbpjccpdloaaW.PrintWords Go.Proofs.YtlglbpjccpdloaaW.PrintLast
theorem rfindP_l0 (l : List S24) (hm : l.length ≤ 1000000) (s : ByteArray) : ∀ (k i : Nat), l.length - i < k → i ≤ l.length →
    chicaneref14_Find.l0 k l s (i : Int) = some (Lib.idxFromS ((namesP l).drop i) s i) := by
  intro k
  induction k with
  | zero => intro i h; omega
  | succ k ih =>
    intro i h hi
    unfold chicaneref14_Find.l0
    by_cases hl : i < l.length
    · have hd : (namesP l).drop i = l[i].f0 :: (namesP l).drop (i + 1) := by
        rw [namesP, List.drop_eq_getElem_cons (by simpa using hl)]; simp
      rw [if_pos (by omega), if_pos (by omega), rdP_at l i hl, hd, Lib.idxFromS]
      by_cases he : l[i].f0 = s
      · rw [if_pos ((nm_toList_eq_iff _ _).2 he), if_pos he]
      · rw [if_neg (fun h2 => he ((nm_toList_eq_iff _ _).1 h2)), if_neg he, show wrap64 ((i : Int) + 1) = ((i + 1 : Nat) : Int) by rw [w64_in' _ (by omega) (by omega)]; rfl]
        exact ih (i + 1) (by omega) (by omega)
    · rw [if_neg (by omega), List.drop_eq_nil_of_le (by simp [namesP]; omega)]
      rfl
theorem rfindP_is (l : List S24) (hm : l.length ≤ 1000000) (s : ByteArray) (k : Nat) (hk : l.length < k) : chicaneref14_Find.f k l s = some (place (namesP l) s) := by
  have := rfindP_l0 l hm s k 0 (by omega) (by omega)
  rw [List.drop_zero] at this
  exact this
theorem few_small {l : List S24} (h : fewB l = true) : smallP l = true := by
  obtain ⟨h1, h2⟩ := few_at h
  unfold smallP
  simp only [Bool.and_eq_true, decide_eq_true_eq, List.all_eq_true]
  exact ⟨by omega, fun x hx => by have := (h2 x hx).1; omega⟩
theorem few_same {a : List S24} (b : List S24) (h : fewB a = true) (k : Nat) (hk : 193 ≤ k) : chicaneref14_Same.f k a b = some (eqPL a b) := by
  obtain ⟨h1, h2⟩ := few_at h
  have h3 := need_few 12 a (fun x hx => (h2 x hx).1)
  exact rsame_is a b (by omega) (fun x hx => by have := (h2 x hx).1; omega) k (by omega)
theorem one_same (x : S24) (hx : x.f3.length ≤ 12) (k : Nat) (hk : 30 ≤ k) : chicaneref14_Same.f k [x] [x] = some true := by
  rw [rsame_is [x] [x] (by simp) (by intro y hy; rw [List.mem_singleton.1 hy]; omega) k (by simp [needP]; omega), (eqPL_iff _ _).2 rfl]
theorem cut_one {l : List S24} {k : Nat} {x : S24} (hx : l[k]? = some x) : (l.take (k + 1)).drop k = [x] := by
  obtain ⟨hl, he⟩ := List.getElem?_eq_some_iff.1 hx
  rw [List.take_add_one, List.drop_append_of_le_length (by rw [List.length_take]; omega), List.drop_eq_nil_of_le (by rw [List.length_take]; omega), hx]
  rfl
theorem place_at' {l : List S24} {s : ByteArray} (h : ¬ place (namesP l) s < 0) : ∃ (k : Nat) (x : S24), place (namesP l) s = (k : Int) ∧ l[k]? = some x := by
  rcases place_spec (namesP l) s with ⟨h1, _⟩ | ⟨k, h1, h2, _⟩
  · omega
  · rw [namesP, List.getElem?_map] at h2
    cases hx : l[k]? with
    | none => rw [hx] at h2; cases h2
    | some x => exact ⟨k, x, h1, hx⟩
theorem finds_j0 (l m : List S24) (hf : fewB l = true) (s : ByteArray) (q : Bool) (k : Nat) (hk : 400 ≤ k) : chicanelaw14_NamesFinds.j0 k l m s q = some true := by
  obtain ⟨k, rfl⟩ : ∃ z, k = z + 2 := ⟨k - 2, by omega⟩
  have ha := alive_is (k + 1) (by omega)
  have ha2 := alive_is k (by omega)
  obtain ⟨h1, h2⟩ := few_at hf
  cases q with
  | true => simp only [chicanelaw14_NamesFinds.j0, ha, Option.bind_some, if_true]
  | false =>
    have hs : eqPL l l = true := (eqPL_iff l l).2 rfl
    by_cases hp : place (namesP l) s < 0
    · have hfn : names_Find.f l s = some ((⟨#[]⟩ : ByteArray), false, 0, ([] : List S39), false) := by
        unfold names_Find.f
        simp only [names_at_api_Proxy.f, Option.bind_some]
        rw [if_pos (show place (l.map (·.f0)) s < 0 from hp)]
      have hz := one_same (⟨⟨#[]⟩, false, 0, []⟩ : S24) (by simp) k (by omega)
      have hd : decide (place (namesP l) s ≥ 0) = false := decide_eq_false (by omega)
      simp only [chicanelaw14_NamesFinds.j0, chicanelaw14_NamesFinds.j1, hfn, Option.bind_some, rfindP_is l (by omega) s (k + 1) (by omega), hd, names_Same.f, few_same m hf (k + 1) (by omega), hs, ha2, hz, bne_self_eq_false, Bool.not_true, Bool.false_eq_true, if_false, if_true]
    · obtain ⟨p, x, hpk, hx⟩ := place_at' hp
      obtain ⟨hl, he⟩ := List.getElem?_eq_some_iff.1 hx
      have hxf := (h2 x (List.mem_of_getElem? hx)).1
      have hfy : names_Find.f l s = some (x.f0, x.f1, x.f2, x.f3, true) := by
        unfold names_Find.f
        simp only [names_at_api_Proxy.f, names_own.f, if_pos (few_small hf), Option.bind_some]
        rw [show place (l.map (·.f0)) s = (p : Int) from hpk, if_neg (by omega), if_pos (by omega), if_pos (by omega), rdP_at l p hl, he]
      have hz := one_same x hxf k (by omega)
      have hd : decide ((p : Int) ≥ 0) = true := decide_eq_true (by omega)
      have hw : wrap64 ((p : Int) + 1) = ((p + 1 : Nat) : Int) := by rw [w64_in' _ (by omega) (by omega)]; rfl
      have c1 : (0 : Int) ≤ (p : Int) := by omega
      have c2 : (p : Int) ≤ ((p + 1 : Nat) : Int) := by omega
      have c3 : ((p + 1 : Nat) : Int) ≤ (l.length : Int) := by omega
      have hcut := cut_one hx
      simp only [chicanelaw14_NamesFinds.j0, chicanelaw14_NamesFinds.j1, hfy, Option.bind_some, rfindP_is l (by omega) s (k + 1) (by omega), hpk, hd, names_Same.f, few_same m hf (k + 1) (by omega), hs, ha2, bne_self_eq_false, Bool.not_true, Bool.false_eq_true, if_false, if_true, hw]
      rw [if_pos c1, if_pos c2, if_pos c3, Int.toNat_natCast, Int.toNat_natCast, hcut]
      show (chicaneref14_Same.f k [x] [x]).bind _ = some true
      rw [hz]
      rfl
theorem finds_is (l m : List S24) (hl : l.length ≤ 9223372036854775807) (hm : m.length ≤ 9223372036854775807) (s : ByteArray) : chicanelaw14_NamesFinds.f (l.length + m.length + 400) l m s = some true := by
  have ht : ∀ k, 400 ≤ k → chicanelaw14_NamesFinds.j0 k l m s true = some true := fun k hk => by
    obtain ⟨k, rfl⟩ : ∃ z, k = z + 1 := ⟨k - 1, by omega⟩
    simp only [chicanelaw14_NamesFinds.j0, alive_is k (by omega), Option.bind_some, if_true]
  unfold chicanelaw14_NamesFinds.f
  rw [few_is l hl _ (by omega), Option.bind_some]
  cases hf : fewB l with
  | false =>
    rw [if_neg Bool.false_ne_true]
    exact ht _ (by omega)
  | true =>
    rw [if_pos rfl, few_is m hm _ (by omega), Option.bind_some]
    exact finds_j0 l m hf s _ _ (by omega)
end Go.Proofs.Ytlglbpjccpdloaa.Ext
namespace Go.Proofs.Ytlglbpjccpdloaa.namesFinds
open Go.ChangeShapes Go.WideShapes Go.ChangeAt Go.RowKit
open Go.ChangeMaps (open_string shut_string)
set_option linter.unusedVariables false
theorem own : ownKnob Try.prog.godebug = none := by kernel_rfl
theorem laidOut : laidOutB Try.prog = true := by kernel_rfl
set_option maxRecDepth 100000 in
theorem lifted (os : Os) (started : os.Started) (H : Type) (enc : TypeId × Value → H) :
    ReturnsInHanded {} Try.checked os 4 .any (Rows.namesFindsSpec.pre6 enc Try.prog Try.f4 Rows.namesFindsRow.domain false) (Rows.namesFindsSpec.post enc Try.prog Try.f4 false true false false) := by
  refine returnsInHanded_of_change_sized (C := Try.checked) own started (by kernel_rfl) Try.func4
    (ChangeSpec.witness6 (enc := enc) (C := Try.checked) false ⟨#[], #[.slice none 0 0, .slice none 0 0, .string ByteArray.empty], []⟩ 8 (by kernel_rfl) (by kernel_rfl) (by kernel_rfl) (by kernel_rfl)) ?_
  intro W base args ds gs before hval0 hW hcnd hsz0 _
  have hsz : (DataW.weightsEach Try.prog (Try.f4.params.toList ++ Rows.namesFindsSpec.plain.varTypes Try.prog) (ds ++ gs)).all (· ≤ reachBytes) = true := hsz0
  have hval : ∀ (j : Nat) t v, Try.f4.params[j]? = some t → args[j]? = some v → Value.okWide Try.prog W .any base t v := hval0
  have hW' := hW
  obtain ⟨p, q, hA0, hV, rfl, hfz, hnd⟩ := hW
  have hA : DataW.TrodAll enc Try.prog W 0 (fun _ => true) true Try.f4.params.toList args.toList ds p := hA0
  rw [Try.params4] at hA hval hsz
  obtain ⟨v0, vs0, d0, ds0, p0, q0, hargs, rfl, rfl, h0, r0'⟩ := trodAll_cons hA
  obtain ⟨v1, vs1, d1, ds1, p1, q1, rfl, rfl, rfl, h1, r1'⟩ := trodAll_cons r0'
  obtain ⟨v2, vs2, d2, ds2, p2, q2, rfl, rfl, rfl, h2, r2'⟩ := trodAll_cons r1'
  obtain ⟨rfl, rfl, rfl⟩ := trodAll_nil r2'
  obtain rfl : args = #[v0, v1, v2] := by cases args; simp_all
  obtain ⟨rfl, rfl⟩ := trodVars_none hV
  have k0 := h0
  have lt0 : ∀ x ∈ p0, x.block < W.heap.size := by obtain ⟨m, hm⟩ := k0; exact DataW.trod_lt m _ _ _ hm
  obtain ⟨Ax0, len0, cap0, hv0⟩ := okWide_slice Try.underlying26 (hval 0 26 v0 rfl rfl)
  obtain ⟨A0, cp0, l0, rfl, hc0, r0, m0, e0⟩ := Arg.proxies_arg h0 ⟨_, _, _, hv0⟩
  have k1 := h1
  have lt1 : ∀ x ∈ p1, x.block < W.heap.size := by obtain ⟨m, hm⟩ := k1; exact DataW.trod_lt m _ _ _ hm
  obtain ⟨Ax1, len1, cap1, hv1⟩ := okWide_slice Try.underlying26 (hval 1 26 v1 rfl rfl)
  obtain ⟨A1, cp1, l1, rfl, hc1, r1, m1, e1⟩ := Arg.proxies_arg h1 ⟨_, _, _, hv1⟩
  obtain ⟨s2, rfl, rfl, rfl, y2⟩ := open_string Try.underlying9 (hval 2 9 v2 rfl rfl) h2
  have z2 : s2.size ≤ 140737488351232 := by
    have z := sized_string hsz (j := 2) (t := 9) rfl rfl
    rw [Array.length_toList] at z
    exact z
  clear hA0 hval0 hsz0 hsz
  refine (PNamA.chicanelaw14_NamesFinds.calls (l0.length + l1.length + 400) A0 cp0 l0 A1 cp1 l1 s2 true W r0 hc0 r1 hc1 rfl (Ext.finds_is l0 l1 m0 m1 s2)).mono fun e W' ⟨he, bel⟩ => ?_
  subst he
  exact ⟨_, rfl, _, _, _, [], _, [], hW', trodAll_mk1 (shut_bool Try.underlying4 _), (trodAll_cons_mk (Below.trod laidOut (by kernel_rfl) (of_decide_eq_true (by kernel_rfl)) k0 bel lt0) (trodAll_cons_mk (Below.trod laidOut (by kernel_rfl) (of_decide_eq_true (by kernel_rfl)) k1 bel lt1) (trodAll_cons_mk (shut_string Try.underlying9 y2) trodAll_mk0))), rfl, bel.frame _, fun h => by cases h⟩
theorem over : Rows.namesFindsRow.holds Try.pinned (OpenSpec.ofChange Rows.namesFindsSpec) :=
  OpenClaim.holds_of_wide 4 Try.f4 rfl rfl rfl rfl rfl rfl rfl ⟨rfl, rfl, rfl, rfl, rfl⟩ rfl rfl rfl rfl rfl (by kernel_rfl) Try.func4 (by kernel_rfl)
    (of_decide_eq_true (by kernel_rfl)) (by unfold Func.isWrapper; first | (rw [if_pos (by decide +kernel)]; kernel_rfl) | (rw [if_neg (by decide +kernel)]; exact ⟨rfl, rfl⟩))
    (fun os started H enc _ => lifted os started H enc)
theorem proved : Rows.NamesFindsSaid := over
end Go.Proofs.Ytlglbpjccpdloaa.namesFinds
namespace Go.Proofs.Ytlglbpjccpdloaa
theorem namesFinds_holds : Rows.NamesFindsSaid := namesFinds.proved
end Go.Proofs.Ytlglbpjccpdloaa
