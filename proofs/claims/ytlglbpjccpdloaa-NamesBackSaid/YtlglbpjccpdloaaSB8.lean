/- Gathered by a program of this session (shake.py): what the claim's theorem needs. -/
import Derived.Test.YtlglbpjccpdloaaSB1
import Derived.Test.YtlglbpjccpdloaaSB3
import Derived.Test.YtlglbpjccpdloaaSB4
import Derived.Test.YtlglbpjccpdloaaSB5
import Derived.Test.YtlglbpjccpdloaaSB6
import Derived.Test.YtlglbpjccpdloaaSB7
import Derived.WalkKit
import Derived.ProofKit
import Derived.OpenShut
import Derived.ShutString
import Derived.ChangeOld
import Derived.Below
import Derived.SizedLaws
import Derived.Test.YtlglbpjccpdloaaRows
set_option linter.unusedVariables false
set_option linter.unusedSimpArgs false
namespace Go.Proofs.Ytlglbpjccpdloaa.Ext
end Go.Proofs.Ytlglbpjccpdloaa.Ext
namespace Go.Proofs.Ytlglbpjccpdloaa.NmLaw
end Go.Proofs.Ytlglbpjccpdloaa.NmLaw
namespace Go.Proofs.Ytlglbpjccpdloaa.PNamA
end Go.Proofs.Ytlglbpjccpdloaa.PNamA
namespace Go.Proofs.Ytlglbpjccpdloaa.Tox
end Go.Proofs.Ytlglbpjccpdloaa.Tox
namespace Go.Proofs.Ytlglbpjccpdloaa.ToxZ
end Go.Proofs.Ytlglbpjccpdloaa.ToxZ
namespace Go.Proofs.YtlglbpjccpdloaaW.PrintLast
end Go.Proofs.YtlglbpjccpdloaaW.PrintLast
namespace Go.Proofs.YtlglbpjccpdloaaW.PrintMore
end Go.Proofs.YtlglbpjccpdloaaW.PrintMore
namespace Go.Proofs.YtlglbpjccpdloaaW.PrintWords
end Go.Proofs.YtlglbpjccpdloaaW.PrintWords
namespace Go.Proofs.Ytlglbpjccpdloaa.PNamA
open Go.Proofs.Ytlglbpjccpdloaa.Ext Go.Proofs.Ytlglbpjccpdloaa.ToxZ Go.RowKit Go.Proofs.YtlglbpjccpdloaaW.PrintWords Go.Proofs.YtlglbpjccpdloaaW.PrintLast Go.Proofs.YtlglbpjccpdloaaW.PrintMore
attribute [local go_sem] max2_int min2_int max_two min_two max_three min_three max_four min_four   -- for this text's walks alone
set_option linter.unusedVariables false
set_option linter.unusedSimpArgs false
mutual
def chicanelaw14_NamesBack.j0 : Nat → List (S24) → ByteArray → Bool → ByteArray → Int → Bool → Int → Int → Int → Option (Bool)
  | 0, _, _, _, _, _, _, _, _, _ => none
  | k + 1, x0, x2, x39, x253000, x253001, x253002, x253003, x253004, x253005 => if x39 = true then ((chicanelaw14_alive.f k).bind fun t255 => (some t255)) else ((names_AddToxic.f x0 x2 x253000 x253001 x253002 x253003 x253004 x253005).bind fun bt256 => (if bt256.2 = 0 then ((names_DropToxic.f bt256.1 x2 x253000).bind fun bt260 => (if bt260.2 = 0 then ((chicaneref14_Same.f k bt260.1 x0).bind fun t264 => (if t264 = true then ((chicaneref14_Same.f k bt256.1 x0).bind fun t265 => (if t265 = true then (some false) else (chicanelaw14_NamesBack.j1 k x0 x2 bt256.2))) else (some false))) else (some false))) else (chicanelaw14_NamesBack.j1 k x0 x2 bt256.2)))
def chicanelaw14_NamesBack.j1 : Nat → List (S24) → ByteArray → Int → Option (Bool)
  | 0, _, _, _ => none
  | k + 1, x0, x2, x8 => (names_Add.f x0 x2 2).bind fun bt266 => (if bt266.2 = 0 then ((names_Drop.f bt266.1 x2).bind fun bt270 => (if bt270.2 = 0 then ((chicaneref14_Same.f k bt270.1 x0).bind fun t274 => (if t274 = true then (if (bt266.1.length : Int) = (wrap64 ((x0.length : Int) + 1)) then (chicanelaw14_NamesBack.j2 k x0 x2 x8 bt266.2) else (some false)) else (some false))) else (some false))) else (chicanelaw14_NamesBack.j2 k x0 x2 x8 bt266.2))
def chicanelaw14_NamesBack.j2 : Nat → List (S24) → ByteArray → Int → Int → Option (Bool)
  | 0, _, _, _, _ => none
  | k + 1, x0, x2, x8, x12 => (names_Find.f x0 x2).bind fun bt275 => ((names_Switch.f x0 x2 (!bt275.2.1)).bind fun bt283 => (if bt275.2.2.2.2 = true then ((names_Switch.f bt283.1 x2 bt275.2.1).bind fun bt287 => ((chicanelaw14_alive.f k).bind fun t291 => (if t291 = true then (if bt283.2 = 0 then (if bt287.2 = 0 then ((chicaneref14_Same.f k bt287.1 x0).bind fun t292 => (if t292 = true then (some (x12 == 141)) else (some false))) else (some false)) else (some false)) else (some false)))) else ((chicanelaw14_alive.f k).bind fun t293 => (if t293 = true then (if bt283.2 = 142 then (some (x8 == 142)) else (some false)) else (some false)))))
end
def chicanelaw14_NamesBack.f (k : Nat) (l0 : List (S24)) (a1_0 : ByteArray) (a1_1 : Int) (a1_2 : Bool) (a1_3 : Int) (a1_4 : Int) (a1_5 : Int) (a2 : ByteArray) : Option (Bool) := (chicanelaw14_few.f k l0).bind fun t253 => (if t253 = true then ((chicaneref14_Right.f k l0).bind fun t254 => (if t254 = true then (if (a2.size : Int) > 100 then (chicanelaw14_NamesBack.j0 k l0 a2 true a1_0 a1_1 a1_2 a1_3 a1_4 a1_5) else (chicanelaw14_NamesBack.j0 k l0 a2 (decide ((a1_0.size : Int) > 100)) a1_0 a1_1 a1_2 a1_3 a1_4 a1_5)) else (chicanelaw14_NamesBack.j0 k l0 a2 true a1_0 a1_1 a1_2 a1_3 a1_4 a1_5))) else (chicanelaw14_NamesBack.j0 k l0 a2 true a1_0 a1_1 a1_2 a1_3 a1_4 a1_5))
theorem chicanelaw14_NamesBack.mono_l : ∀ k, (∀ y0 y1 y2 y3 y4 y5 y6 y7 y8, LeO (chicanelaw14_NamesBack.j0 k y0 y1 y2 y3 y4 y5 y6 y7 y8) (chicanelaw14_NamesBack.j0 (k + 1) y0 y1 y2 y3 y4 y5 y6 y7 y8)) ∧ (∀ y0 y1 y2, LeO (chicanelaw14_NamesBack.j1 k y0 y1 y2) (chicanelaw14_NamesBack.j1 (k + 1) y0 y1 y2)) ∧ (∀ y0 y1 y2 y3, LeO (chicanelaw14_NamesBack.j2 k y0 y1 y2 y3) (chicanelaw14_NamesBack.j2 (k + 1) y0 y1 y2 y3))
  | 0 => ⟨fun _ _ _ _ _ _ _ _ _ r h => by simp [chicanelaw14_NamesBack.j0] at h, fun _ _ _ r h => by simp [chicanelaw14_NamesBack.j1] at h, fun _ _ _ _ r h => by simp [chicanelaw14_NamesBack.j2] at h⟩
  | k + 1 => by
    obtain ⟨ih0, ih1, ih2⟩ := chicanelaw14_NamesBack.mono_l k
    refine ⟨?_, ?_, ?_⟩
    · intro y0 y1 y2 y3 y4 y5 y6 y7 y8
      unfold chicanelaw14_NamesBack.j0
      repeat' first
      | (with_reducible exact ih0 _ _ _ _ _ _ _ _ _)
      | (with_reducible exact ih1 _ _ _)
      | (with_reducible exact ih2 _ _ _ _)
      | (with_reducible exact chicanelaw14_alive.mono _)
      | (with_reducible exact chicanelaw14_few.mono _ _)
      | (with_reducible exact chicaneref14_Right.mono _ _)
      | (with_reducible exact chicaneref14_Same.mono _ _ _)
      | (with_reducible exact LeO.refl _)
      | (with_reducible exact LeO.none _)
      | (with_reducible refine LeO.ite ?_ ?_)
      | (with_reducible refine LeO.bind ?_ (fun _ => ?_))
      | exact ih0 _ _ _ _ _ _ _ _ _
      | exact ih1 _ _ _
      | exact ih2 _ _ _ _
      | exact chicanelaw14_alive.mono _
      | exact chicanelaw14_few.mono _ _
      | exact chicaneref14_Right.mono _ _
      | exact chicaneref14_Same.mono _ _ _
      | exact LeO.none _
      | refine LeO.ite ?_ ?_
      | refine LeO.bind ?_ (fun _ => ?_)
    · intro y0 y1 y2
      unfold chicanelaw14_NamesBack.j1
      repeat' first
      | (with_reducible exact ih0 _ _ _ _ _ _ _ _ _)
      | (with_reducible exact ih1 _ _ _)
      | (with_reducible exact ih2 _ _ _ _)
      | (with_reducible exact chicanelaw14_alive.mono _)
      | (with_reducible exact chicanelaw14_few.mono _ _)
      | (with_reducible exact chicaneref14_Right.mono _ _)
      | (with_reducible exact chicaneref14_Same.mono _ _ _)
      | (with_reducible exact LeO.refl _)
      | (with_reducible exact LeO.none _)
      | (with_reducible refine LeO.ite ?_ ?_)
      | (with_reducible refine LeO.bind ?_ (fun _ => ?_))
      | exact ih0 _ _ _ _ _ _ _ _ _
      | exact ih1 _ _ _
      | exact ih2 _ _ _ _
      | exact chicanelaw14_alive.mono _
      | exact chicanelaw14_few.mono _ _
      | exact chicaneref14_Right.mono _ _
      | exact chicaneref14_Same.mono _ _ _
      | exact LeO.none _
      | refine LeO.ite ?_ ?_
      | refine LeO.bind ?_ (fun _ => ?_)
    · intro y0 y1 y2 y3
      unfold chicanelaw14_NamesBack.j2
      repeat' first
      | (with_reducible exact ih0 _ _ _ _ _ _ _ _ _)
      | (with_reducible exact ih1 _ _ _)
      | (with_reducible exact ih2 _ _ _ _)
      | (with_reducible exact chicanelaw14_alive.mono _)
      | (with_reducible exact chicanelaw14_few.mono _ _)
      | (with_reducible exact chicaneref14_Right.mono _ _)
      | (with_reducible exact chicaneref14_Same.mono _ _ _)
      | (with_reducible exact LeO.refl _)
      | (with_reducible exact LeO.none _)
      | (with_reducible refine LeO.ite ?_ ?_)
      | (with_reducible refine LeO.bind ?_ (fun _ => ?_))
      | exact ih0 _ _ _ _ _ _ _ _ _
      | exact ih1 _ _ _
      | exact ih2 _ _ _ _
      | exact chicanelaw14_alive.mono _
      | exact chicanelaw14_few.mono _ _
      | exact chicaneref14_Right.mono _ _
      | exact chicaneref14_Same.mono _ _ _
      | exact LeO.none _
      | refine LeO.ite ?_ ?_
      | refine LeO.bind ?_ (fun _ => ?_)
theorem chicanelaw14_NamesBack.mono : ∀ a0 a1 a2 a3 a4 a5 a6 a7 k, LeO (chicanelaw14_NamesBack.f k a0 a1 a2 a3 a4 a5 a6 a7) (chicanelaw14_NamesBack.f (k + 1) a0 a1 a2 a3 a4 a5 a6 a7) := by
  intro a0 a1 a2 a3 a4 a5 a6 a7 k
  obtain ⟨ih0, ih1, ih2⟩ := chicanelaw14_NamesBack.mono_l k
  unfold chicanelaw14_NamesBack.f
  repeat' first
      | (with_reducible exact ih0 _ _ _ _ _ _ _ _ _)
      | (with_reducible exact ih1 _ _ _)
      | (with_reducible exact ih2 _ _ _ _)
      | (with_reducible exact chicanelaw14_alive.mono _)
      | (with_reducible exact chicanelaw14_few.mono _ _)
      | (with_reducible exact chicaneref14_Right.mono _ _)
      | (with_reducible exact chicaneref14_Same.mono _ _ _)
      | (with_reducible exact LeO.refl _)
      | (with_reducible exact LeO.none _)
      | (with_reducible refine LeO.ite ?_ ?_)
      | (with_reducible refine LeO.bind ?_ (fun _ => ?_))
      | exact ih0 _ _ _ _ _ _ _ _ _
      | exact ih1 _ _ _
      | exact ih2 _ _ _ _
      | exact chicanelaw14_alive.mono _
      | exact chicanelaw14_few.mono _ _
      | exact chicaneref14_Right.mono _ _
      | exact chicaneref14_Same.mono _ _ _
      | exact LeO.none _
      | refine LeO.ite ?_ ?_
      | refine LeO.bind ?_ (fun _ => ?_)
set_option maxHeartbeats 8000000 in
set_option maxRecDepth 100000 in
theorem chicanelaw14_NamesBack.calls (k : Nat) (A0 : Option Addr) (c0 : Nat) (l0 : List (S24)) (a1_0 : ByteArray) (a1_1 : Int) (a1_2 : Bool) (a1_3 : Int) (a1_4 : Int) (a1_5 : Int) (a2 : ByteArray) (r : Bool) (w : World) (hr0 : Kd.C k24 w A0 l0.length l0) (hc0 : l0.length ≤ c0) (hr : r = true) (h : chicanelaw14_NamesBack.f k l0 a1_0 a1_1 a1_2 a1_3 a1_4 a1_5 a2 = some r) :
    Calls Try.prog 5 #[.slice A0 l0.length c0, .agg #[.string a1_0, .int .i64 a1_1, .bool a1_2, .int .i64 a1_3, .int .i64 a1_4, .int .i64 a1_5], .string a2] w fun e w' => e = .returned (.bool r) ∧ Below w.heap.size w w' := by
  have hu39 := Try.underlying39
  have hu24 := Try.underlying24
  have HR0 := Aside0.mk hr0
  have HC0 := Aside0.mk hc0
  clear hr0 hc0
  have HB := Aside0.mk (Below.refl w.heap.size w)
  have H : ((chicanelaw14_few.f k l0).bind fun t253 => (if t253 = true then ((chicaneref14_Right.f k l0).bind fun t254 => (if t254 = true then (if (a2.size : Int) > 100 then (chicanelaw14_NamesBack.j0 k l0 a2 true a1_0 a1_1 a1_2 a1_3 a1_4 a1_5) else (chicanelaw14_NamesBack.j0 k l0 a2 (decide ((a1_0.size : Int) > 100)) a1_0 a1_1 a1_2 a1_3 a1_4 a1_5)) else (chicanelaw14_NamesBack.j0 k l0 a2 true a1_0 a1_1 a1_2 a1_3 a1_4 a1_5))) else (chicanelaw14_NamesBack.j0 k l0 a2 true a1_0 a1_1 a1_2 a1_3 a1_4 a1_5))) = some r := h
  clear h
  have HC4 := Aside0.mk H
  clear H
  go_enter Try.func5, Try.ntmps5
  go_upto_region 1 with (first | ((with_reducible refine gate_dst (N := 4) rfl ?_); (try (refine gate_guard (by rfl) ?_; dsimp only)); refine box_event ?hg (N := 4) ?hd (cs := #[.string a1_0, .int .i64 a1_1, .bool a1_2, .int .i64 a1_3, .int .i64 a1_4, .int .i64 a1_5]) (t := 39) ?hr ?_; (case hd => rfl); (case hg => rfl); (case hr => first | (go_simp; done) | (go_simp; rfl)); intro gb252 hg w5 hbox hb; have n0_ := Aside0.mk (below_step (by repeat (first | (with_reducible first | exact HB.out | apply below_alloc | apply pw_below_drewN | apply below_drew1) | exact HB.out)) hb); have n1_ := Aside0.mk (hbox); have n2_ := Aside0.mk ((by rw [hg]; exact (below_size (by repeat (first | (with_reducible first | exact HB.out | apply below_alloc | apply pw_below_drewN | apply below_drew1) | exact HB.out))) : w.heap.size ≤ gb252)); have n3_ := Aside0.mk ((by rw [hg]; exact (below_size (by repeat (first | (with_reducible first | exact HB.out | apply below_alloc | apply pw_below_drewN | apply below_drew1) | exact HB.out))) : w.heap.size ≤ gb252)); clear HB; have HB := n0_; have BK252 := n1_; have GW252 := n2_; have GE252 := n3_; clear n0_ n1_ n2_ n3_; clear hb hbox hg))
  (try simp only [Act.put, List.setIfInBounds_toArray, List.set_cons_zero, List.set_cons_succ])
  go_cut [39] (fun v39 wc => ∃ (kq : Nat) (x39_3 : Bool), v39 = .bool x39_3 ∧ Aside0 (chicanelaw14_NamesBack.j0 kq l0 a2 x39_3 a1_0 a1_1 a1_2 a1_3 a1_4 a1_5 = some r) ∧ Aside0 (kq ≤ k) ∧ Aside0 (wc.heap[gb252]? = some (.cells #[.string a1_0, .int .i64 a1_1, .bool a1_2, .int .i64 a1_3, .int .i64 a1_4, .int .i64 a1_5] 39 (0, 0))) ∧ Aside0 (Below w.heap.size w wc))
  case first =>
    have H := HC4.out
    clear HC4
    replace H := Option.bind_eq_some_iff.mp H
    obtain ⟨t253, A60, H⟩ := H
    replace H : (if t253 = true then ((chicaneref14_Right.f k l0).bind fun t254 => (if t254 = true then (if (a2.size : Int) > 100 then (chicanelaw14_NamesBack.j0 k l0 a2 true a1_0 a1_1 a1_2 a1_3 a1_4 a1_5) else (chicanelaw14_NamesBack.j0 k l0 a2 (decide ((a1_0.size : Int) > 100)) a1_0 a1_1 a1_2 a1_3 a1_4 a1_5)) else (chicanelaw14_NamesBack.j0 k l0 a2 true a1_0 a1_1 a1_2 a1_3 a1_4 a1_5))) else (chicanelaw14_NamesBack.j0 k l0 a2 true a1_0 a1_1 a1_2 a1_3 a1_4 a1_5)) = some r := H
    have A6 := Aside0.mk A60
    clear A60
    by_cases c7 : t253 = true
    · subst c7
      have H1 : ((chicaneref14_Right.f k l0).bind fun t254 => (if t254 = true then (if (a2.size : Int) > 100 then (chicanelaw14_NamesBack.j0 k l0 a2 true a1_0 a1_1 a1_2 a1_3 a1_4 a1_5) else (chicanelaw14_NamesBack.j0 k l0 a2 (decide ((a1_0.size : Int) > 100)) a1_0 a1_1 a1_2 a1_3 a1_4 a1_5)) else (chicanelaw14_NamesBack.j0 k l0 a2 true a1_0 a1_1 a1_2 a1_3 a1_4 a1_5))) = some r := by rw [if_pos rfl] at H; exact H
      clear H
      have H := H1
      clear H1
      replace H := Option.bind_eq_some_iff.mp H
      obtain ⟨t254, A80, H⟩ := H
      replace H : (if t254 = true then (if (a2.size : Int) > 100 then (chicanelaw14_NamesBack.j0 k l0 a2 true a1_0 a1_1 a1_2 a1_3 a1_4 a1_5) else (chicanelaw14_NamesBack.j0 k l0 a2 (decide ((a1_0.size : Int) > 100)) a1_0 a1_1 a1_2 a1_3 a1_4 a1_5)) else (chicanelaw14_NamesBack.j0 k l0 a2 true a1_0 a1_1 a1_2 a1_3 a1_4 a1_5)) = some r := H
      have A8 := Aside0.mk A80
      clear A80
      by_cases c9 : t254 = true
      · subst c9
        have H1 : (if (a2.size : Int) > 100 then (chicanelaw14_NamesBack.j0 k l0 a2 true a1_0 a1_1 a1_2 a1_3 a1_4 a1_5) else (chicanelaw14_NamesBack.j0 k l0 a2 (decide ((a1_0.size : Int) > 100)) a1_0 a1_1 a1_2 a1_3 a1_4 a1_5)) = some r := by rw [if_pos rfl] at H; exact H
        clear H
        have H := H1
        clear H1
        by_cases c10 : (a2.size : Int) > 100
        · rw [if_pos c10] at H
          have c10b0 : decide (100 < (a2.size : Int)) = true := decide_eq_true c10
          have c10b1 : decide (100 < a2.size) = true := decide_eq_true (by omega)
          clear c10
          (first | rw [c10b0] | (simp only [i64_w, i32_w]; rw [c10b0]) | skip)
          have H' := Aside0.mk H
          clear H
          go_wp2_with (first | ((with_reducible refine gate_callee (f := 7) rfl ?_); refine goesL_ (some 22) rfl rfl Try.func7 (by kernel_rfl) rfl #[.slice A0 l0.length c0] rfl (by (try simp only [List.map_toArray, List.map_cons, List.map_nil]); first | done | rfl | (simp only [List.length_drop, List.length_take]; rfl)) ?_; (with_reducible refine (chicanelaw14_few.calls k _ _ l0 true _ ?side1 ?side2 A6.out).mono ?_); (case side1 => repeat (first | exact (Kd.C_below HR0.out HB.out) | (with_reducible refine Kd.C_alloc ?_ _) | (with_reducible refine Kd.C_drewN ?_ _) | (with_reducible refine Kd.C_drew ?_))); (case side2 => exact HC0.out); rintro e w11 ⟨rfl, hb⟩; refine ⟨_, rfl, ?_⟩; have n0_ := Aside0.mk (blk_below (g := gb252) (o := .cells #[.string a1_0, .int .i64 a1_1, .bool a1_2, .int .i64 a1_3, .int .i64 a1_4, .int .i64 a1_5] 39 (0, 0)) (by (with_reducible repeat (first | refine blk_drewN ?_ _ | refine blk_drew ?_ | refine blk_alloc ?_ _)); exact BK252.out) hb); have n1_ := Aside0.mk (below_step (by repeat (first | (with_reducible first | exact HB.out | apply below_alloc | apply pw_below_drewN | apply below_drew1 | refine below_set ?_ GE252.out) | exact HB.out)) hb); clear BK252; clear HB; have BK252 := n0_; have HB := n1_; clear n0_ n1_; (try clear hb); (try clear hb2); (try clear hk); (try clear hi)) | (go_at_call 17; (with_reducible refine (chicaneref14_Right.calls k _ _ l0 true _ ?side1 ?side2 A8.out).mono ?_); (case side1 => repeat (first | exact (Kd.C_below HR0.out HB.out) | (with_reducible refine Kd.C_alloc ?_ _) | (with_reducible refine Kd.C_drewN ?_ _) | (with_reducible refine Kd.C_drew ?_))); (case side2 => exact HC0.out); rintro e w12 ⟨rfl, hb⟩; have n0_ := Aside0.mk (blk_below (g := gb252) (o := .cells #[.string a1_0, .int .i64 a1_1, .bool a1_2, .int .i64 a1_3, .int .i64 a1_4, .int .i64 a1_5] 39 (0, 0)) (by (with_reducible repeat (first | refine blk_drewN ?_ _ | refine blk_drew ?_ | refine blk_alloc ?_ _)); exact BK252.out) hb); have n1_ := Aside0.mk (below_step (by repeat (first | (with_reducible first | exact HB.out | apply below_alloc | apply pw_below_drewN | apply below_drew1 | refine below_set ?_ GE252.out) | exact HB.out)) hb); clear BK252; clear HB; have BK252 := n0_; have HB := n1_; clear n0_ n1_; (try clear hb); (try clear hb2); (try clear hk); (try clear hi)))
          go_meet
          case rel => exact ⟨_, (true), (by first | rfl | (simp; done) | (simp [*]; done)), H', ⟨by first | omega | exact Nat.le_refl _⟩, ⟨by (with_reducible repeat (first | refine blk_drewN ?_ _ | refine blk_drew ?_ | refine blk_alloc ?_ _)); exact BK252.out⟩, ⟨by repeat (first | (with_reducible first | exact HB.out | apply below_alloc | apply pw_below_drewN | apply below_drew1 | refine below_set ?_ GE252.out) | exact HB.out)⟩⟩
        · rw [if_neg c10] at H
          have c10b0 : decide (100 < (a2.size : Int)) = false := decide_eq_false c10
          have c10b1 : decide (100 < a2.size) = false := decide_eq_false (by omega)
          clear c10
          (first | rw [c10b0] | (simp only [i64_w, i32_w]; rw [c10b0]) | skip)
          have H' := Aside0.mk H
          clear H
          go_wp2_with (first | ((with_reducible refine gate_callee (f := 7) rfl ?_); refine goesL_ (some 22) rfl rfl Try.func7 (by kernel_rfl) rfl #[.slice A0 l0.length c0] rfl (by (try simp only [List.map_toArray, List.map_cons, List.map_nil]); first | done | rfl | (simp only [List.length_drop, List.length_take]; rfl)) ?_; (with_reducible refine (chicanelaw14_few.calls k _ _ l0 true _ ?side1 ?side2 A6.out).mono ?_); (case side1 => repeat (first | exact (Kd.C_below HR0.out HB.out) | (with_reducible refine Kd.C_alloc ?_ _) | (with_reducible refine Kd.C_drewN ?_ _) | (with_reducible refine Kd.C_drew ?_))); (case side2 => exact HC0.out); rintro e w13 ⟨rfl, hb⟩; refine ⟨_, rfl, ?_⟩; have n0_ := Aside0.mk (blk_below (g := gb252) (o := .cells #[.string a1_0, .int .i64 a1_1, .bool a1_2, .int .i64 a1_3, .int .i64 a1_4, .int .i64 a1_5] 39 (0, 0)) (by (with_reducible repeat (first | refine blk_drewN ?_ _ | refine blk_drew ?_ | refine blk_alloc ?_ _)); exact BK252.out) hb); have n1_ := Aside0.mk (below_step (by repeat (first | (with_reducible first | exact HB.out | apply below_alloc | apply pw_below_drewN | apply below_drew1 | refine below_set ?_ GE252.out) | exact HB.out)) hb); clear BK252; clear HB; have BK252 := n0_; have HB := n1_; clear n0_ n1_; (try clear hb); (try clear hb2); (try clear hk); (try clear hi)) | (go_at_call 17; (with_reducible refine (chicaneref14_Right.calls k _ _ l0 true _ ?side1 ?side2 A8.out).mono ?_); (case side1 => repeat (first | exact (Kd.C_below HR0.out HB.out) | (with_reducible refine Kd.C_alloc ?_ _) | (with_reducible refine Kd.C_drewN ?_ _) | (with_reducible refine Kd.C_drew ?_))); (case side2 => exact HC0.out); rintro e w14 ⟨rfl, hb⟩; have n0_ := Aside0.mk (blk_below (g := gb252) (o := .cells #[.string a1_0, .int .i64 a1_1, .bool a1_2, .int .i64 a1_3, .int .i64 a1_4, .int .i64 a1_5] 39 (0, 0)) (by (with_reducible repeat (first | refine blk_drewN ?_ _ | refine blk_drew ?_ | refine blk_alloc ?_ _)); exact BK252.out) hb); have n1_ := Aside0.mk (below_step (by repeat (first | (with_reducible first | exact HB.out | apply below_alloc | apply pw_below_drewN | apply below_drew1 | refine below_set ?_ GE252.out) | exact HB.out)) hb); clear BK252; clear HB; have BK252 := n0_; have HB := n1_; clear n0_ n1_; (try clear hb); (try clear hb2); (try clear hk); (try clear hi); have hcz15_0 : w14.cell? ⟨gb252, 0, none⟩ = some (.string a1_0) := (blk_cell BK252.out 0).trans rfl; have hcz15_1 : w14.cell? ⟨gb252, 1, none⟩ = some (.int .i64 a1_1) := (blk_cell BK252.out 1).trans rfl; have hcz15_2 : w14.cell? ⟨gb252, 2, none⟩ = some (.bool a1_2) := (blk_cell BK252.out 2).trans rfl; have hcz15_3 : w14.cell? ⟨gb252, 3, none⟩ = some (.int .i64 a1_3) := (blk_cell BK252.out 3).trans rfl; have hcz15_4 : w14.cell? ⟨gb252, 4, none⟩ = some (.int .i64 a1_4) := (blk_cell BK252.out 4).trans rfl; have hcz15_5 : w14.cell? ⟨gb252, 5, none⟩ = some (.int .i64 a1_5) := (blk_cell BK252.out 5).trans rfl; have hfz15_0 := blk_frozen BK252.out 0; have hfz15_1 := blk_frozen BK252.out 1; have hfz15_2 := blk_frozen BK252.out 2; have hfz15_3 := blk_frozen BK252.out 3; have hfz15_4 := blk_frozen BK252.out 4; have hfz15_5 := blk_frozen BK252.out 5))
          go_meet
          case rel => exact ⟨_, (decide ((a1_0.size : Int) > 100)), (by first | rfl | (simp; done) | (simp [*]; done)), H', ⟨by first | omega | exact Nat.le_refl _⟩, ⟨by (with_reducible repeat (first | refine blk_drewN ?_ _ | refine blk_drew ?_ | refine blk_alloc ?_ _)); exact BK252.out⟩, ⟨by repeat (first | (with_reducible first | exact HB.out | apply below_alloc | apply pw_below_drewN | apply below_drew1 | refine below_set ?_ GE252.out) | exact HB.out)⟩⟩
      · replace c9 := Bool.eq_false_iff.mpr c9
        subst c9
        have H1 : (chicanelaw14_NamesBack.j0 k l0 a2 true a1_0 a1_1 a1_2 a1_3 a1_4 a1_5) = some r := by rw [if_neg (show ¬ (false = true) by decide)] at H; exact H
        clear H
        have H := H1
        clear H1
        have H' := Aside0.mk H
        clear H
        go_wp2_with (first | ((with_reducible refine gate_callee (f := 7) rfl ?_); refine goesL_ (some 22) rfl rfl Try.func7 (by kernel_rfl) rfl #[.slice A0 l0.length c0] rfl (by (try simp only [List.map_toArray, List.map_cons, List.map_nil]); first | done | rfl | (simp only [List.length_drop, List.length_take]; rfl)) ?_; (with_reducible refine (chicanelaw14_few.calls k _ _ l0 true _ ?side1 ?side2 A6.out).mono ?_); (case side1 => repeat (first | exact (Kd.C_below HR0.out HB.out) | (with_reducible refine Kd.C_alloc ?_ _) | (with_reducible refine Kd.C_drewN ?_ _) | (with_reducible refine Kd.C_drew ?_))); (case side2 => exact HC0.out); rintro e w16 ⟨rfl, hb⟩; refine ⟨_, rfl, ?_⟩; have n0_ := Aside0.mk (blk_below (g := gb252) (o := .cells #[.string a1_0, .int .i64 a1_1, .bool a1_2, .int .i64 a1_3, .int .i64 a1_4, .int .i64 a1_5] 39 (0, 0)) (by (with_reducible repeat (first | refine blk_drewN ?_ _ | refine blk_drew ?_ | refine blk_alloc ?_ _)); exact BK252.out) hb); have n1_ := Aside0.mk (below_step (by repeat (first | (with_reducible first | exact HB.out | apply below_alloc | apply pw_below_drewN | apply below_drew1 | refine below_set ?_ GE252.out) | exact HB.out)) hb); clear BK252; clear HB; have BK252 := n0_; have HB := n1_; clear n0_ n1_; (try clear hb); (try clear hb2); (try clear hk); (try clear hi)) | (go_at_call 17; (with_reducible refine (chicaneref14_Right.calls k _ _ l0 false _ ?side1 ?side2 A8.out).mono ?_); (case side1 => repeat (first | exact (Kd.C_below HR0.out HB.out) | (with_reducible refine Kd.C_alloc ?_ _) | (with_reducible refine Kd.C_drewN ?_ _) | (with_reducible refine Kd.C_drew ?_))); (case side2 => exact HC0.out); rintro e w17 ⟨rfl, hb⟩; have n0_ := Aside0.mk (blk_below (g := gb252) (o := .cells #[.string a1_0, .int .i64 a1_1, .bool a1_2, .int .i64 a1_3, .int .i64 a1_4, .int .i64 a1_5] 39 (0, 0)) (by (with_reducible repeat (first | refine blk_drewN ?_ _ | refine blk_drew ?_ | refine blk_alloc ?_ _)); exact BK252.out) hb); have n1_ := Aside0.mk (below_step (by repeat (first | (with_reducible first | exact HB.out | apply below_alloc | apply pw_below_drewN | apply below_drew1 | refine below_set ?_ GE252.out) | exact HB.out)) hb); clear BK252; clear HB; have BK252 := n0_; have HB := n1_; clear n0_ n1_; (try clear hb); (try clear hb2); (try clear hk); (try clear hi)))
        go_meet
        case rel => exact ⟨_, (true), (by first | rfl | (simp; done) | (simp [*]; done)), H', ⟨by first | omega | exact Nat.le_refl _⟩, ⟨by (with_reducible repeat (first | refine blk_drewN ?_ _ | refine blk_drew ?_ | refine blk_alloc ?_ _)); exact BK252.out⟩, ⟨by repeat (first | (with_reducible first | exact HB.out | apply below_alloc | apply pw_below_drewN | apply below_drew1 | refine below_set ?_ GE252.out) | exact HB.out)⟩⟩
    · replace c7 := Bool.eq_false_iff.mpr c7
      subst c7
      have H1 : (chicanelaw14_NamesBack.j0 k l0 a2 true a1_0 a1_1 a1_2 a1_3 a1_4 a1_5) = some r := by rw [if_neg (show ¬ (false = true) by decide)] at H; exact H
      clear H
      have H := H1
      clear H1
      have H' := Aside0.mk H
      clear H
      go_wp2_with (first | ((with_reducible refine gate_callee (f := 7) rfl ?_); refine goesL_ (some 22) rfl rfl Try.func7 (by kernel_rfl) rfl #[.slice A0 l0.length c0] rfl (by (try simp only [List.map_toArray, List.map_cons, List.map_nil]); first | done | rfl | (simp only [List.length_drop, List.length_take]; rfl)) ?_; (with_reducible refine (chicanelaw14_few.calls k _ _ l0 false _ ?side1 ?side2 A6.out).mono ?_); (case side1 => repeat (first | exact (Kd.C_below HR0.out HB.out) | (with_reducible refine Kd.C_alloc ?_ _) | (with_reducible refine Kd.C_drewN ?_ _) | (with_reducible refine Kd.C_drew ?_))); (case side2 => exact HC0.out); rintro e w18 ⟨rfl, hb⟩; refine ⟨_, rfl, ?_⟩; have n0_ := Aside0.mk (blk_below (g := gb252) (o := .cells #[.string a1_0, .int .i64 a1_1, .bool a1_2, .int .i64 a1_3, .int .i64 a1_4, .int .i64 a1_5] 39 (0, 0)) (by (with_reducible repeat (first | refine blk_drewN ?_ _ | refine blk_drew ?_ | refine blk_alloc ?_ _)); exact BK252.out) hb); have n1_ := Aside0.mk (below_step (by repeat (first | (with_reducible first | exact HB.out | apply below_alloc | apply pw_below_drewN | apply below_drew1 | refine below_set ?_ GE252.out) | exact HB.out)) hb); clear BK252; clear HB; have BK252 := n0_; have HB := n1_; clear n0_ n1_; (try clear hb); (try clear hb2); (try clear hk); (try clear hi)))
      go_meet
      case rel => exact ⟨_, (true), (by first | rfl | (simp; done) | (simp [*]; done)), H', ⟨by first | omega | exact Nat.le_refl _⟩, ⟨by (with_reducible repeat (first | refine blk_drewN ?_ _ | refine blk_drew ?_ | refine blk_alloc ?_ _)); exact BK252.out⟩, ⟨by repeat (first | (with_reducible first | exact HB.out | apply below_alloc | apply pw_below_drewN | apply below_drew1 | refine below_set ?_ GE252.out) | exact HB.out)⟩⟩
  case rest =>
    clear HC4
    try clear c1
    try clear p2
    try clear c5
    try clear c7
    try clear c9
    try clear c10
    try clear c10b0
    try clear c10b1
    try clear hcz15_0
    try clear hcz15_1
    try clear hcz15_2
    try clear hcz15_3
    try clear hcz15_4
    try clear hcz15_5
    try clear hfz15_0
    try clear hfz15_1
    try clear hfz15_2
    try clear hfz15_3
    try clear hfz15_4
    try clear hfz15_5
    obtain ⟨kq, x39_3, rfl, HA, HJ3, BK252, HB⟩ := hcut
    cases kq with
    | zero => exact absurd HA.out (by simp [chicanelaw14_NamesBack.j0])
    | succ kj3 =>
      have H := HA.out
      clear HA
      simp only [chicanelaw14_NamesBack.j0] at H
      by_cases c19 : x39_3 = true
      · subst c19
        have H1 : ((chicanelaw14_alive.f kj3).bind fun t255 => (some t255)) = some r := by rw [if_pos rfl] at H; exact H
        clear H
        have H := H1
        clear H1
        replace H := Option.bind_eq_some_iff.mp H
        obtain ⟨t255, A200, H⟩ := H
        replace H : (some t255) = some r := H
        have A20 := Aside0.mk A200
        clear A200
        obtain rfl := Option.some.inj H
        go_wp2_with (first | ((with_reducible refine gate_callee (f := 8) rfl ?_); refine goesL_ (some 40) rfl rfl Try.func8 (by kernel_rfl) rfl #[] rfl (by (try simp only [List.map_toArray, List.map_cons, List.map_nil]); first | done | rfl | (simp only [List.length_drop, List.length_take]; rfl)) ?_; (with_reducible refine (chicanelaw14_alive.calls kj3  t255 _ A20.out).mono ?_); rintro e w21 ⟨rfl, hb⟩; refine ⟨_, rfl, ?_⟩; have n0_ := Aside0.mk (blk_below (g := gb252) (o := .cells #[.string a1_0, .int .i64 a1_1, .bool a1_2, .int .i64 a1_3, .int .i64 a1_4, .int .i64 a1_5] 39 (0, 0)) (by (with_reducible repeat (first | refine blk_drewN ?_ _ | refine blk_drew ?_ | refine blk_alloc ?_ _)); exact BK252.out) hb); have n1_ := Aside0.mk (below_step (by repeat (first | (with_reducible first | exact HB.out | apply below_alloc | apply pw_below_drewN | apply below_drew1 | refine below_set ?_ GE252.out) | exact HB.out)) hb); clear BK252; clear HB; have BK252 := n0_; have HB := n1_; clear n0_ n1_; (try clear hb); (try clear hb2); (try clear hk); (try clear hi)))
        go_ret
        exact ⟨by first | rfl | (simp [errW_none, errW_some] <;> rfl) | (simp [*, errW_none, errW_some] <;> rfl), by repeat (first | (with_reducible first | exact HB.out | apply below_alloc | apply pw_below_drewN | apply below_drew1 | refine below_set ?_ GE252.out) | exact HB.out)⟩
      · replace c19 := Bool.eq_false_iff.mpr c19
        subst c19
        have H1 : ((names_AddToxic.f l0 a2 a1_0 a1_1 a1_2 a1_3 a1_4 a1_5).bind fun bt256 => (if bt256.2 = 0 then ((names_DropToxic.f bt256.1 a2 a1_0).bind fun bt260 => (if bt260.2 = 0 then ((chicaneref14_Same.f kj3 bt260.1 l0).bind fun t264 => (if t264 = true then ((chicaneref14_Same.f kj3 bt256.1 l0).bind fun t265 => (if t265 = true then (some false) else (chicanelaw14_NamesBack.j1 kj3 l0 a2 bt256.2))) else (some false))) else (some false))) else (chicanelaw14_NamesBack.j1 kj3 l0 a2 bt256.2))) = some r := by rw [if_neg (show ¬ (false = true) by decide)] at H; exact H
        clear H
        have H := H1
        clear H1
        replace H := Option.bind_eq_some_iff.mp H
        obtain ⟨⟨t256, t259⟩, A220, H⟩ := H
        replace H : (if t259 = 0 then ((names_DropToxic.f t256 a2 a1_0).bind fun bt260 => (if bt260.2 = 0 then ((chicaneref14_Same.f kj3 bt260.1 l0).bind fun t264 => (if t264 = true then ((chicaneref14_Same.f kj3 t256 l0).bind fun t265 => (if t265 = true then (some false) else (chicanelaw14_NamesBack.j1 kj3 l0 a2 t259))) else (some false))) else (some false))) else (chicanelaw14_NamesBack.j1 kj3 l0 a2 t259)) = some r := H
        have A22 := Aside0.mk A220
        clear A220
        have HC23 := Aside0.mk H
        clear H
        have hcz24_0 : wc.cell? ⟨gb252, 0, none⟩ = some (.string a1_0) := (blk_cell BK252.out 0).trans rfl
        have hcz24_1 : wc.cell? ⟨gb252, 1, none⟩ = some (.int .i64 a1_1) := (blk_cell BK252.out 1).trans rfl
        have hcz24_2 : wc.cell? ⟨gb252, 2, none⟩ = some (.bool a1_2) := (blk_cell BK252.out 2).trans rfl
        have hcz24_3 : wc.cell? ⟨gb252, 3, none⟩ = some (.int .i64 a1_3) := (blk_cell BK252.out 3).trans rfl
        have hcz24_4 : wc.cell? ⟨gb252, 4, none⟩ = some (.int .i64 a1_4) := (blk_cell BK252.out 4).trans rfl
        have hcz24_5 : wc.cell? ⟨gb252, 5, none⟩ = some (.int .i64 a1_5) := (blk_cell BK252.out 5).trans rfl
        have hfz24_0 := blk_frozen BK252.out 0
        have hfz24_1 := blk_frozen BK252.out 1
        have hfz24_2 := blk_frozen BK252.out 2
        have hfz24_3 := blk_frozen BK252.out 3
        have hfz24_4 := blk_frozen BK252.out 4
        have hfz24_5 := blk_frozen BK252.out 5
        go_upto_if 49 with (first | ((with_reducible refine gate_callee (f := 18) rfl ?_); refine goesL_ (some 45) rfl rfl Try.func18 (by kernel_rfl) rfl #[.slice A0 l0.length c0, .string a2, .agg #[.string a1_0, .int .i64 a1_1, .bool a1_2, .int .i64 a1_3, .int .i64 a1_4, .int .i64 a1_5]] rfl (by (try simp only [List.map_toArray, List.map_cons, List.map_nil]); first | done | rfl | (simp only [List.length_drop, List.length_take]; rfl)) ?_; (with_reducible refine (names_AddToxic.calls _ _ l0 a2 a1_0 a1_1 a1_2 a1_3 a1_4 a1_5 t256 t259 _ ?side1 ?side2 A22.out).mono ?_); (case side1 => repeat (first | exact (Kd.C_below HR0.out HB.out) | (with_reducible refine Kd.C_alloc ?_ _) | (with_reducible refine Kd.C_drewN ?_ _) | (with_reducible refine Kd.C_drew ?_))); (case side2 => exact HC0.out); rintro e w25 ⟨v257, rfl, ho0, hb⟩; refine ⟨_, rfl, ?_⟩; have n0_ := Aside0.mk (Kd.S_lower (Kd.S_newB ho0 (g := gb252) (o := .cells #[.string a1_0, .int .i64 a1_1, .bool a1_2, .int .i64 a1_3, .int .i64 a1_4, .int .i64 a1_5] 39 (0, 0)) (by (with_reducible repeat (first | refine blk_drewN ?_ _ | refine blk_drew ?_ | refine blk_alloc ?_ _)); exact BK252.out)) (below_size (by repeat (first | (with_reducible first | exact HB.out | apply below_alloc | apply pw_below_drewN | apply below_drew1 | refine below_set ?_ GE252.out) | exact HB.out)))); have n1_ := Aside0.mk (blk_below (g := gb252) (o := .cells #[.string a1_0, .int .i64 a1_1, .bool a1_2, .int .i64 a1_3, .int .i64 a1_4, .int .i64 a1_5] 39 (0, 0)) (by (with_reducible repeat (first | refine blk_drewN ?_ _ | refine blk_drew ?_ | refine blk_alloc ?_ _)); exact BK252.out) hb); have n2_ := Aside0.mk (below_step (by repeat (first | (with_reducible first | exact HB.out | apply below_alloc | apply pw_below_drewN | apply below_drew1 | refine below_set ?_ GE252.out) | exact HB.out)) hb); clear BK252; clear HB; have HO258 := n0_; have BK252 := n1_; have HB := n2_; clear n0_ n1_ n2_; (try clear hb); (try clear hb2); (try clear hk); (try clear hi); (try clear ho0)))
        (try simp only [Act.put, List.setIfInBounds_toArray, List.set_cons_zero, List.set_cons_succ])
        go_cut [] (fun wc => ∃ (kq : Nat), Aside0 (chicanelaw14_NamesBack.j1 kq l0 a2 t259 = some r) ∧ Aside0 (kq ≤ kj3) ∧ Aside0 (wc.heap[gb252]? = some (.cells #[.string a1_0, .int .i64 a1_1, .bool a1_2, .int .i64 a1_3, .int .i64 a1_4, .int .i64 a1_5] 39 (0, 0))) ∧ Aside0 (Below w.heap.size w wc))
        case first =>
          have H := HC23.out
          clear HC23
          by_cases c26 : t259 = 0
          · rw [if_pos c26] at H
            have c26b0 : (t259 == 0) = true := beq_iff_eq.mpr c26
            have c26b1 : (t259 != 0) = false := bne_eq_false_iff_eq.mpr c26
            clear c26
            (first | rw [c26b0] | (simp only [i64_w, i32_w]; rw [c26b0]) | skip)
            replace H := Option.bind_eq_some_iff.mp H
            obtain ⟨⟨t260, t261⟩, A270, H⟩ := H
            replace H : (if t261 = 0 then ((chicaneref14_Same.f kj3 t260 l0).bind fun t264 => (if t264 = true then ((chicaneref14_Same.f kj3 t256 l0).bind fun t265 => (if t265 = true then (some false) else (chicanelaw14_NamesBack.j1 kj3 l0 a2 t259))) else (some false))) else (some false)) = some r := H
            have A27 := Aside0.mk A270
            clear A270
            by_cases c28 : t261 = 0
            · rw [if_pos c28] at H
              have c28b0 : (t261 == 0) = true := beq_iff_eq.mpr c28
              have c28b1 : (t261 != 0) = false := bne_eq_false_iff_eq.mpr c28
              clear c28
              replace H := Option.bind_eq_some_iff.mp H
              obtain ⟨t264, A290, H⟩ := H
              replace H : (if t264 = true then ((chicaneref14_Same.f kj3 t256 l0).bind fun t265 => (if t265 = true then (some false) else (chicanelaw14_NamesBack.j1 kj3 l0 a2 t259))) else (some false)) = some r := H
              have A29 := Aside0.mk A290
              clear A290
              by_cases c30 : t264 = true
              · subst c30
                have H1 : ((chicaneref14_Same.f kj3 t256 l0).bind fun t265 => (if t265 = true then (some false) else (chicanelaw14_NamesBack.j1 kj3 l0 a2 t259))) = some r := by rw [if_pos rfl] at H; exact H
                clear H
                have H := H1
                clear H1
                replace H := Option.bind_eq_some_iff.mp H
                obtain ⟨t265, A310, H⟩ := H
                replace H : (if t265 = true then (some false) else (chicanelaw14_NamesBack.j1 kj3 l0 a2 t259)) = some r := H
                have A31 := Aside0.mk A310
                clear A310
                by_cases c32 : t265 = true
                · subst c32
                  have H1 : (some false) = some r := by rw [if_pos rfl] at H; exact H
                  clear H
                  have H := H1
                  clear H1
                  exact absurd ((Option.some.inj H).trans hr) Bool.false_ne_true
                · replace c32 := Bool.eq_false_iff.mpr c32
                  subst c32
                  have H1 : (chicanelaw14_NamesBack.j1 kj3 l0 a2 t259) = some r := by rw [if_neg (show ¬ (false = true) by decide)] at H; exact H
                  clear H
                  have H := H1
                  clear H1
                  have H' := Aside0.mk H
                  clear H
                  have hcz39_0 : w25.cell? ⟨gb252, 0, none⟩ = some (.string a1_0) := (blk_cell BK252.out 0).trans rfl
                  have hcz39_1 : w25.cell? ⟨gb252, 1, none⟩ = some (.int .i64 a1_1) := (blk_cell BK252.out 1).trans rfl
                  have hcz39_2 : w25.cell? ⟨gb252, 2, none⟩ = some (.bool a1_2) := (blk_cell BK252.out 2).trans rfl
                  have hcz39_3 : w25.cell? ⟨gb252, 3, none⟩ = some (.int .i64 a1_3) := (blk_cell BK252.out 3).trans rfl
                  have hcz39_4 : w25.cell? ⟨gb252, 4, none⟩ = some (.int .i64 a1_4) := (blk_cell BK252.out 4).trans rfl
                  have hcz39_5 : w25.cell? ⟨gb252, 5, none⟩ = some (.int .i64 a1_5) := (blk_cell BK252.out 5).trans rfl
                  have hfz39_0 := blk_frozen BK252.out 0
                  have hfz39_1 := blk_frozen BK252.out 1
                  have hfz39_2 := blk_frozen BK252.out 2
                  have hfz39_3 := blk_frozen BK252.out 3
                  have hfz39_4 := blk_frozen BK252.out 4
                  have hfz39_5 := blk_frozen BK252.out 5
                  obtain ⟨Ao40, co40, eo40⟩ := Kd.S_slice HO258.out
                  subst eo40
                  go_wp2_with (first | ((with_reducible refine gate_callee (f := 19) rfl ?_); refine goesL_ (some 55) rfl rfl Try.func19 (by kernel_rfl) rfl #[.slice Ao40 t256.length co40, .string a2, .string a1_0] rfl (by (try simp only [List.map_toArray, List.map_cons, List.map_nil]); first | done | rfl | (simp only [List.length_drop, List.length_take]; rfl)) ?_; (with_reducible refine (names_DropToxic.calls _ _ t256 a2 a1_0 t260 t261 _ ?side1 ?side2 A27.out).mono ?_); (case side1 => repeat (first | exact (Kd.S_reads' HO258.out).2.2 | (with_reducible refine Kd.C_alloc ?_ _) | (with_reducible refine Kd.C_drewN ?_ _) | (with_reducible refine Kd.C_drew ?_))); (case side2 => exact (Kd.S_reads' HO258.out).2.1); rintro e w41 ⟨v262, rfl, ho0, hb⟩; refine ⟨_, rfl, ?_⟩; have n0_ := Aside0.mk (Kd.S_elder' (by (with_reducible repeat (first | apply Kd.S_alloc | apply Kd.S_drewN | apply Kd.S_drew)); exact HO258.out) (Kd.S_base ho0) hb); have n1_ := Aside0.mk (Kd.S_lower (Kd.S_newB (Kd.S_new' ho0 (Kd.S_lt (by (with_reducible repeat (first | apply Kd.S_alloc | apply Kd.S_drewN | apply Kd.S_drew)); exact HO258.out))) (g := gb252) (o := .cells #[.string a1_0, .int .i64 a1_1, .bool a1_2, .int .i64 a1_3, .int .i64 a1_4, .int .i64 a1_5] 39 (0, 0)) (by (with_reducible repeat (first | refine blk_drewN ?_ _ | refine blk_drew ?_ | refine blk_alloc ?_ _)); exact BK252.out)) (below_size (by repeat (first | (with_reducible first | exact HB.out | apply below_alloc | apply pw_below_drewN | apply below_drew1 | refine below_set ?_ GE252.out) | exact HB.out)))); have n2_ := Aside0.mk (blk_below (g := gb252) (o := .cells #[.string a1_0, .int .i64 a1_1, .bool a1_2, .int .i64 a1_3, .int .i64 a1_4, .int .i64 a1_5] 39 (0, 0)) (by (with_reducible repeat (first | refine blk_drewN ?_ _ | refine blk_drew ?_ | refine blk_alloc ?_ _)); exact BK252.out) hb); have n3_ := Aside0.mk (below_step (by repeat (first | (with_reducible first | exact HB.out | apply below_alloc | apply pw_below_drewN | apply below_drew1 | refine below_set ?_ GE252.out) | exact HB.out)) hb); clear HO258; clear BK252; clear HB; have HO258 := n0_; have HO263 := n1_; have BK252 := n2_; have HB := n3_; clear n0_ n1_ n2_ n3_; (try clear hb); (try clear hb2); (try clear hk); (try clear hi); (try clear ho0); obtain ⟨Ao42, co42, eo42⟩ := Kd.S_slice HO263.out; subst eo42) | (go_at_call 16; (with_reducible refine (chicaneref14_Same.calls kj3 _ _ t260 _ _ l0 true _ ?side1 ?side2 ?side3 ?side4 A29.out).mono ?_); (case side1 => repeat (first | exact (Kd.S_reads' HO263.out).2.2 | (with_reducible refine Kd.C_alloc ?_ _) | (with_reducible refine Kd.C_drewN ?_ _) | (with_reducible refine Kd.C_drew ?_))); (case side2 => exact (Kd.S_reads' HO263.out).2.1); (case side3 => repeat (first | exact (Kd.C_below HR0.out HB.out) | (with_reducible refine Kd.C_alloc ?_ _) | (with_reducible refine Kd.C_drewN ?_ _) | (with_reducible refine Kd.C_drew ?_))); (case side4 => exact HC0.out); rintro e w43 ⟨rfl, hb⟩; have n0_ := Aside0.mk (Kd.S_below (by (with_reducible repeat (first | apply Kd.S_alloc | apply Kd.S_drewN | apply Kd.S_drew)); exact HO258.out) hb); have n1_ := Aside0.mk (Kd.S_below (by (with_reducible repeat (first | apply Kd.S_alloc | apply Kd.S_drewN | apply Kd.S_drew)); exact HO263.out) hb); have n2_ := Aside0.mk (blk_below (g := gb252) (o := .cells #[.string a1_0, .int .i64 a1_1, .bool a1_2, .int .i64 a1_3, .int .i64 a1_4, .int .i64 a1_5] 39 (0, 0)) (by (with_reducible repeat (first | refine blk_drewN ?_ _ | refine blk_drew ?_ | refine blk_alloc ?_ _)); exact BK252.out) hb); have n3_ := Aside0.mk (below_step (by repeat (first | (with_reducible first | exact HB.out | apply below_alloc | apply pw_below_drewN | apply below_drew1 | refine below_set ?_ GE252.out) | exact HB.out)) hb); clear HO258; clear HO263; clear BK252; clear HB; have HO258 := n0_; have HO263 := n1_; have BK252 := n2_; have HB := n3_; clear n0_ n1_ n2_ n3_; (try clear hb); (try clear hb2); (try clear hk); (try clear hi)) | (go_at_call 16; (with_reducible refine (chicaneref14_Same.calls kj3 _ _ t256 _ _ l0 false _ ?side1 ?side2 ?side3 ?side4 A31.out).mono ?_); (case side1 => repeat (first | exact (Kd.S_reads' HO258.out).2.2 | (with_reducible refine Kd.C_alloc ?_ _) | (with_reducible refine Kd.C_drewN ?_ _) | (with_reducible refine Kd.C_drew ?_))); (case side2 => exact (Kd.S_reads' HO258.out).2.1); (case side3 => repeat (first | exact (Kd.C_below HR0.out HB.out) | (with_reducible refine Kd.C_alloc ?_ _) | (with_reducible refine Kd.C_drewN ?_ _) | (with_reducible refine Kd.C_drew ?_))); (case side4 => exact HC0.out); rintro e w44 ⟨rfl, hb⟩; have n0_ := Aside0.mk (Kd.S_below (by (with_reducible repeat (first | apply Kd.S_alloc | apply Kd.S_drewN | apply Kd.S_drew)); exact HO258.out) hb); have n1_ := Aside0.mk (Kd.S_below (by (with_reducible repeat (first | apply Kd.S_alloc | apply Kd.S_drewN | apply Kd.S_drew)); exact HO263.out) hb); have n2_ := Aside0.mk (blk_below (g := gb252) (o := .cells #[.string a1_0, .int .i64 a1_1, .bool a1_2, .int .i64 a1_3, .int .i64 a1_4, .int .i64 a1_5] 39 (0, 0)) (by (with_reducible repeat (first | refine blk_drewN ?_ _ | refine blk_drew ?_ | refine blk_alloc ?_ _)); exact BK252.out) hb); have n3_ := Aside0.mk (below_step (by repeat (first | (with_reducible first | exact HB.out | apply below_alloc | apply pw_below_drewN | apply below_drew1 | refine below_set ?_ GE252.out) | exact HB.out)) hb); clear HO258; clear HO263; clear BK252; clear HB; have HO258 := n0_; have HO263 := n1_; have BK252 := n2_; have HB := n3_; clear n0_ n1_ n2_ n3_; (try clear hb); (try clear hb2); (try clear hk); (try clear hi)))
                  go_meet
                  case rel => exact ⟨_, H', ⟨by have := HJ3.out; first | omega | exact Nat.le_refl _⟩, ⟨by (with_reducible repeat (first | refine blk_drewN ?_ _ | refine blk_drew ?_ | refine blk_alloc ?_ _)); exact BK252.out⟩, ⟨by repeat (first | (with_reducible first | exact HB.out | apply below_alloc | apply pw_below_drewN | apply below_drew1 | refine below_set ?_ GE252.out) | exact HB.out)⟩⟩
              · replace c30 := Bool.eq_false_iff.mpr c30
                subst c30
                have H1 : (some false) = some r := by rw [if_neg (show ¬ (false = true) by decide)] at H; exact H
                clear H
                have H := H1
                clear H1
                exact absurd ((Option.some.inj H).trans hr) Bool.false_ne_true
            · rw [if_neg c28] at H
              have c28b0 : (t261 == 0) = false := beq_eq_false_iff_ne.mpr c28
              have c28b1 : (t261 != 0) = true := bne_iff_ne.mpr c28
              exact absurd ((Option.some.inj H).trans hr) Bool.false_ne_true
          · rw [if_neg c26] at H
            have c26b0 : (t259 == 0) = false := beq_eq_false_iff_ne.mpr c26
            have c26b1 : (t259 != 0) = true := bne_iff_ne.mpr c26
            (first | rw [c26b0] | (simp only [i64_w, i32_w]; rw [c26b0]) | skip)
            have H' := Aside0.mk H
            clear H
            go_wp2
            go_meet
            case rel => exact ⟨_, H', ⟨by have := HJ3.out; first | omega | exact Nat.le_refl _⟩, ⟨by (with_reducible repeat (first | refine blk_drewN ?_ _ | refine blk_drew ?_ | refine blk_alloc ?_ _)); exact BK252.out⟩, ⟨by repeat (first | (with_reducible first | exact HB.out | apply below_alloc | apply pw_below_drewN | apply below_drew1 | refine below_set ?_ GE252.out) | exact HB.out)⟩⟩
        case rest =>
          clear HC23
          try clear c1
          try clear c2
          try clear p2
          try clear c3
          try clear c5
          try clear c7
          try clear c8
          try clear c9
          try clear c10
          try clear c10b0
          try clear c10b1
          try clear c18
          try clear c19
          try clear c26
          try clear c26b0
          try clear c26b1
          try clear c28
          try clear c28b0
          try clear c28b1
          try clear c30
          try clear c32
          try clear hcz15_0
          try clear hcz15_1
          try clear hcz15_2
          try clear hcz15_3
          try clear hcz15_4
          try clear hcz15_5
          try clear hcz24_0
          try clear hcz24_1
          try clear hcz24_2
          try clear hcz24_3
          try clear hcz24_4
          try clear hcz24_5
          try clear hcz33_0
          try clear hcz33_1
          try clear hcz33_2
          try clear hcz33_3
          try clear hcz33_4
          try clear hcz33_5
          try clear hcz39_0
          try clear hcz39_1
          try clear hcz39_2
          try clear hcz39_3
          try clear hcz39_4
          try clear hcz39_5
          try clear hcz45_0
          try clear hcz45_1
          try clear hcz45_2
          try clear hcz45_3
          try clear hcz45_4
          try clear hcz45_5
          try clear hcz50_0
          try clear hcz50_1
          try clear hcz50_2
          try clear hcz50_3
          try clear hcz50_4
          try clear hcz50_5
          try clear hfz15_0
          try clear hfz15_1
          try clear hfz15_2
          try clear hfz15_3
          try clear hfz15_4
          try clear hfz15_5
          try clear hfz24_0
          try clear hfz24_1
          try clear hfz24_2
          try clear hfz24_3
          try clear hfz24_4
          try clear hfz24_5
          try clear hfz33_0
          try clear hfz33_1
          try clear hfz33_2
          try clear hfz33_3
          try clear hfz33_4
          try clear hfz33_5
          try clear hfz39_0
          try clear hfz39_1
          try clear hfz39_2
          try clear hfz39_3
          try clear hfz39_4
          try clear hfz39_5
          try clear hfz45_0
          try clear hfz45_1
          try clear hfz45_2
          try clear hfz45_3
          try clear hfz45_4
          try clear hfz45_5
          try clear hfz50_0
          try clear hfz50_1
          try clear hfz50_2
          try clear hfz50_3
          try clear hfz50_4
          try clear hfz50_5
          try clear p2
          obtain ⟨kq, HA, HJ22, BK252, HB⟩ := hcut
          cases kq with
          | zero => exact absurd HA.out (by simp [chicanelaw14_NamesBack.j1])
          | succ kj22 =>
            have H := HA.out
            clear HA
            simp only [chicanelaw14_NamesBack.j1] at H
            replace H := Option.bind_eq_some_iff.mp H
            obtain ⟨⟨t266, t267⟩, A530, H⟩ := H
            replace H : (if t267 = 0 then ((names_Drop.f t266 a2).bind fun bt270 => (if bt270.2 = 0 then ((chicaneref14_Same.f kj22 bt270.1 l0).bind fun t274 => (if t274 = true then (if (t266.length : Int) = (wrap64 ((l0.length : Int) + 1)) then (chicanelaw14_NamesBack.j2 kj22 l0 a2 t259 t267) else (some false)) else (some false))) else (some false))) else (chicanelaw14_NamesBack.j2 kj22 l0 a2 t259 t267)) = some r := H
            have A53 := Aside0.mk A530
            clear A530
            have HC54 := Aside0.mk H
            clear H
            go_upto_if 78 with (first | ((with_reducible refine gate_callee (f := 20) rfl ?_); refine goesL_ (some 74) rfl rfl Try.func20 (by kernel_rfl) rfl #[.slice A0 l0.length c0, .string a2, .int .i64 2] rfl (by (try simp only [List.map_toArray, List.map_cons, List.map_nil]); first | done | rfl | (simp only [List.length_drop, List.length_take]; rfl)) ?_; (with_reducible refine (names_Add.calls _ _ l0 a2 2 t266 t267 _ ?side1 ?side2 A53.out).mono ?_); (case side1 => repeat (first | exact (Kd.C_below HR0.out HB.out) | (with_reducible refine Kd.C_alloc ?_ _) | (with_reducible refine Kd.C_drewN ?_ _) | (with_reducible refine Kd.C_drew ?_))); (case side2 => exact HC0.out); rintro e w55 ⟨v268, rfl, ho0, hb⟩; refine ⟨_, rfl, ?_⟩; have n0_ := Aside0.mk (Kd.S_lower (Kd.S_newB ho0 (g := gb252) (o := .cells #[.string a1_0, .int .i64 a1_1, .bool a1_2, .int .i64 a1_3, .int .i64 a1_4, .int .i64 a1_5] 39 (0, 0)) (by (with_reducible repeat (first | refine blk_drewN ?_ _ | refine blk_drew ?_ | refine blk_alloc ?_ _)); exact BK252.out)) (below_size (by repeat (first | (with_reducible first | exact HB.out | apply below_alloc | apply pw_below_drewN | apply below_drew1 | refine below_set ?_ GE252.out) | exact HB.out)))); have n1_ := Aside0.mk (blk_below (g := gb252) (o := .cells #[.string a1_0, .int .i64 a1_1, .bool a1_2, .int .i64 a1_3, .int .i64 a1_4, .int .i64 a1_5] 39 (0, 0)) (by (with_reducible repeat (first | refine blk_drewN ?_ _ | refine blk_drew ?_ | refine blk_alloc ?_ _)); exact BK252.out) hb); have n2_ := Aside0.mk (below_step (by repeat (first | (with_reducible first | exact HB.out | apply below_alloc | apply pw_below_drewN | apply below_drew1 | refine below_set ?_ GE252.out) | exact HB.out)) hb); clear BK252; clear HB; have HO269 := n0_; have BK252 := n1_; have HB := n2_; clear n0_ n1_ n2_; (try clear hb); (try clear hb2); (try clear hk); (try clear hi); (try clear ho0)))
            (try simp only [Act.put, List.setIfInBounds_toArray, List.set_cons_zero, List.set_cons_succ])
            go_cut [] (fun wc => ∃ (kq : Nat), Aside0 (chicanelaw14_NamesBack.j2 kq l0 a2 t259 t267 = some r) ∧ Aside0 (kq ≤ kj22) ∧ Aside0 (wc.heap[gb252]? = some (.cells #[.string a1_0, .int .i64 a1_1, .bool a1_2, .int .i64 a1_3, .int .i64 a1_4, .int .i64 a1_5] 39 (0, 0))) ∧ Aside0 (Below w.heap.size w wc))
            case first =>
              have H := HC54.out
              clear HC54
              by_cases c56 : t267 = 0
              · rw [if_pos c56] at H
                have c56b0 : (t267 == 0) = true := beq_iff_eq.mpr c56
                have c56b1 : (t267 != 0) = false := bne_eq_false_iff_eq.mpr c56
                clear c56
                (first | rw [c56b0] | (simp only [i64_w, i32_w]; rw [c56b0]) | skip)
                replace H := Option.bind_eq_some_iff.mp H
                obtain ⟨⟨t270, t271⟩, A570, H⟩ := H
                replace H : (if t271 = 0 then ((chicaneref14_Same.f kj22 t270 l0).bind fun t274 => (if t274 = true then (if (t266.length : Int) = (wrap64 ((l0.length : Int) + 1)) then (chicanelaw14_NamesBack.j2 kj22 l0 a2 t259 t267) else (some false)) else (some false))) else (some false)) = some r := H
                have A57 := Aside0.mk A570
                clear A570
                by_cases c58 : t271 = 0
                · rw [if_pos c58] at H
                  have c58b0 : (t271 == 0) = true := beq_iff_eq.mpr c58
                  have c58b1 : (t271 != 0) = false := bne_eq_false_iff_eq.mpr c58
                  clear c58
                  replace H := Option.bind_eq_some_iff.mp H
                  obtain ⟨t274, A590, H⟩ := H
                  replace H : (if t274 = true then (if (t266.length : Int) = (wrap64 ((l0.length : Int) + 1)) then (chicanelaw14_NamesBack.j2 kj22 l0 a2 t259 t267) else (some false)) else (some false)) = some r := H
                  have A59 := Aside0.mk A590
                  clear A590
                  by_cases c60 : t274 = true
                  · subst c60
                    have H1 : (if (t266.length : Int) = (wrap64 ((l0.length : Int) + 1)) then (chicanelaw14_NamesBack.j2 kj22 l0 a2 t259 t267) else (some false)) = some r := by rw [if_pos rfl] at H; exact H
                    clear H
                    have H := H1
                    clear H1
                    by_cases c61 : (t266.length : Int) = (wrap64 ((l0.length : Int) + 1))
                    · rw [if_pos c61] at H
                      have c61b0 : ((t266.length : Int) == (wrap64 ((l0.length : Int) + 1))) = true := beq_iff_eq.mpr c61
                      have c61b1 : ((t266.length : Int) != (wrap64 ((l0.length : Int) + 1))) = false := bne_eq_false_iff_eq.mpr c61
                      clear c61
                      have H' := Aside0.mk H
                      clear H
                      obtain ⟨Ao62, co62, eo62⟩ := Kd.S_slice HO269.out
                      subst eo62
                      go_wp2_with (first | ((with_reducible refine gate_callee (f := 21) rfl ?_); refine goesL_ (some 82) rfl rfl Try.func21 (by kernel_rfl) rfl #[.slice Ao62 t266.length co62, .string a2] rfl (by (try simp only [List.map_toArray, List.map_cons, List.map_nil]); first | done | rfl | (simp only [List.length_drop, List.length_take]; rfl)) ?_; (with_reducible refine (names_Drop.calls _ _ t266 a2 t270 t271 _ ?side1 ?side2 A57.out).mono ?_); (case side1 => repeat (first | exact (Kd.S_reads' HO269.out).2.2 | (with_reducible refine Kd.C_alloc ?_ _) | (with_reducible refine Kd.C_drewN ?_ _) | (with_reducible refine Kd.C_drew ?_))); (case side2 => exact (Kd.S_reads' HO269.out).2.1); rintro e w63 ⟨v272, rfl, ho0, hb⟩; refine ⟨_, rfl, ?_⟩; have n0_ := Aside0.mk (Kd.S_elder' (by (with_reducible repeat (first | apply Kd.S_alloc | apply Kd.S_drewN | apply Kd.S_drew)); exact HO269.out) (Kd.S_base ho0) hb); have n1_ := Aside0.mk (Kd.S_lower (Kd.S_newB (Kd.S_new' ho0 (Kd.S_lt (by (with_reducible repeat (first | apply Kd.S_alloc | apply Kd.S_drewN | apply Kd.S_drew)); exact HO269.out))) (g := gb252) (o := .cells #[.string a1_0, .int .i64 a1_1, .bool a1_2, .int .i64 a1_3, .int .i64 a1_4, .int .i64 a1_5] 39 (0, 0)) (by (with_reducible repeat (first | refine blk_drewN ?_ _ | refine blk_drew ?_ | refine blk_alloc ?_ _)); exact BK252.out)) (below_size (by repeat (first | (with_reducible first | exact HB.out | apply below_alloc | apply pw_below_drewN | apply below_drew1 | refine below_set ?_ GE252.out) | exact HB.out)))); have n2_ := Aside0.mk (blk_below (g := gb252) (o := .cells #[.string a1_0, .int .i64 a1_1, .bool a1_2, .int .i64 a1_3, .int .i64 a1_4, .int .i64 a1_5] 39 (0, 0)) (by (with_reducible repeat (first | refine blk_drewN ?_ _ | refine blk_drew ?_ | refine blk_alloc ?_ _)); exact BK252.out) hb); have n3_ := Aside0.mk (below_step (by repeat (first | (with_reducible first | exact HB.out | apply below_alloc | apply pw_below_drewN | apply below_drew1 | refine below_set ?_ GE252.out) | exact HB.out)) hb); clear HO269; clear BK252; clear HB; have HO269 := n0_; have HO273 := n1_; have BK252 := n2_; have HB := n3_; clear n0_ n1_ n2_ n3_; (try clear hb); (try clear hb2); (try clear hk); (try clear hi); (try clear ho0); obtain ⟨Ao64, co64, eo64⟩ := Kd.S_slice HO273.out; subst eo64) | (go_at_call 16; (with_reducible refine (chicaneref14_Same.calls kj22 _ _ t270 _ _ l0 true _ ?side1 ?side2 ?side3 ?side4 A59.out).mono ?_); (case side1 => repeat (first | exact (Kd.S_reads' HO273.out).2.2 | (with_reducible refine Kd.C_alloc ?_ _) | (with_reducible refine Kd.C_drewN ?_ _) | (with_reducible refine Kd.C_drew ?_))); (case side2 => exact (Kd.S_reads' HO273.out).2.1); (case side3 => repeat (first | exact (Kd.C_below HR0.out HB.out) | (with_reducible refine Kd.C_alloc ?_ _) | (with_reducible refine Kd.C_drewN ?_ _) | (with_reducible refine Kd.C_drew ?_))); (case side4 => exact HC0.out); rintro e w65 ⟨rfl, hb⟩; have n0_ := Aside0.mk (Kd.S_below (by (with_reducible repeat (first | apply Kd.S_alloc | apply Kd.S_drewN | apply Kd.S_drew)); exact HO269.out) hb); have n1_ := Aside0.mk (Kd.S_below (by (with_reducible repeat (first | apply Kd.S_alloc | apply Kd.S_drewN | apply Kd.S_drew)); exact HO273.out) hb); have n2_ := Aside0.mk (blk_below (g := gb252) (o := .cells #[.string a1_0, .int .i64 a1_1, .bool a1_2, .int .i64 a1_3, .int .i64 a1_4, .int .i64 a1_5] 39 (0, 0)) (by (with_reducible repeat (first | refine blk_drewN ?_ _ | refine blk_drew ?_ | refine blk_alloc ?_ _)); exact BK252.out) hb); have n3_ := Aside0.mk (below_step (by repeat (first | (with_reducible first | exact HB.out | apply below_alloc | apply pw_below_drewN | apply below_drew1 | refine below_set ?_ GE252.out) | exact HB.out)) hb); clear HO269; clear HO273; clear BK252; clear HB; have HO269 := n0_; have HO273 := n1_; have BK252 := n2_; have HB := n3_; clear n0_ n1_ n2_ n3_; (try clear hb); (try clear hb2); (try clear hk); (try clear hi)))
                      go_meet
                      case rel => exact ⟨_, H', ⟨by have := HJ3.out; have := HJ22.out; first | omega | exact Nat.le_refl _⟩, ⟨by (with_reducible repeat (first | refine blk_drewN ?_ _ | refine blk_drew ?_ | refine blk_alloc ?_ _)); exact BK252.out⟩, ⟨by repeat (first | (with_reducible first | exact HB.out | apply below_alloc | apply pw_below_drewN | apply below_drew1 | refine below_set ?_ GE252.out) | exact HB.out)⟩⟩
                    · rw [if_neg c61] at H
                      have c61b0 : ((t266.length : Int) == (wrap64 ((l0.length : Int) + 1))) = false := beq_eq_false_iff_ne.mpr c61
                      have c61b1 : ((t266.length : Int) != (wrap64 ((l0.length : Int) + 1))) = true := bne_iff_ne.mpr c61
                      exact absurd ((Option.some.inj H).trans hr) Bool.false_ne_true
                  · replace c60 := Bool.eq_false_iff.mpr c60
                    subst c60
                    have H1 : (some false) = some r := by rw [if_neg (show ¬ (false = true) by decide)] at H; exact H
                    clear H
                    have H := H1
                    clear H1
                    exact absurd ((Option.some.inj H).trans hr) Bool.false_ne_true
                · rw [if_neg c58] at H
                  have c58b0 : (t271 == 0) = false := beq_eq_false_iff_ne.mpr c58
                  have c58b1 : (t271 != 0) = true := bne_iff_ne.mpr c58
                  exact absurd ((Option.some.inj H).trans hr) Bool.false_ne_true
              · rw [if_neg c56] at H
                have c56b0 : (t267 == 0) = false := beq_eq_false_iff_ne.mpr c56
                have c56b1 : (t267 != 0) = true := bne_iff_ne.mpr c56
                (first | rw [c56b0] | (simp only [i64_w, i32_w]; rw [c56b0]) | skip)
                have H' := Aside0.mk H
                clear H
                go_wp2
                go_meet
                case rel => exact ⟨_, H', ⟨by have := HJ3.out; have := HJ22.out; first | omega | exact Nat.le_refl _⟩, ⟨by (with_reducible repeat (first | refine blk_drewN ?_ _ | refine blk_drew ?_ | refine blk_alloc ?_ _)); exact BK252.out⟩, ⟨by repeat (first | (with_reducible first | exact HB.out | apply below_alloc | apply pw_below_drewN | apply below_drew1 | refine below_set ?_ GE252.out) | exact HB.out)⟩⟩
            case rest =>
              clear HC54
              try clear c1
              try clear c2
              try clear p2
              try clear c3
              try clear c5
              try clear c6
              try clear p6
              try clear c7
              try clear c8
              try clear c9
              try clear c10
              try clear c10b0
              try clear c10b1
              try clear c18
              try clear c19
              try clear c20
              try clear c21
              try clear c26
              try clear c26b0
              try clear c26b1
              try clear c28
              try clear c28b0
              try clear c28b1
              try clear c30
              try clear c32
              try clear c56
              try clear c56b0
              try clear c56b1
              try clear c58
              try clear c58b0
              try clear c58b1
              try clear c60
              try clear c61
              try clear c61b0
              try clear c61b1
              try clear p64
              try clear hcz15_0
              try clear hcz15_1
              try clear hcz15_2
              try clear hcz15_3
              try clear hcz15_4
              try clear hcz15_5
              try clear hcz24_0
              try clear hcz24_1
              try clear hcz24_2
              try clear hcz24_3
              try clear hcz24_4
              try clear hcz24_5
              try clear hcz33_0
              try clear hcz33_1
              try clear hcz33_2
              try clear hcz33_3
              try clear hcz33_4
              try clear hcz33_5
              try clear hcz39_0
              try clear hcz39_1
              try clear hcz39_2
              try clear hcz39_3
              try clear hcz39_4
              try clear hcz39_5
              try clear hcz45_0
              try clear hcz45_1
              try clear hcz45_2
              try clear hcz45_3
              try clear hcz45_4
              try clear hcz45_5
              try clear hcz50_0
              try clear hcz50_1
              try clear hcz50_2
              try clear hcz50_3
              try clear hcz50_4
              try clear hcz50_5
              try clear hfz15_0
              try clear hfz15_1
              try clear hfz15_2
              try clear hfz15_3
              try clear hfz15_4
              try clear hfz15_5
              try clear hfz24_0
              try clear hfz24_1
              try clear hfz24_2
              try clear hfz24_3
              try clear hfz24_4
              try clear hfz24_5
              try clear hfz33_0
              try clear hfz33_1
              try clear hfz33_2
              try clear hfz33_3
              try clear hfz33_4
              try clear hfz33_5
              try clear hfz39_0
              try clear hfz39_1
              try clear hfz39_2
              try clear hfz39_3
              try clear hfz39_4
              try clear hfz39_5
              try clear hfz45_0
              try clear hfz45_1
              try clear hfz45_2
              try clear hfz45_3
              try clear hfz45_4
              try clear hfz45_5
              try clear hfz50_0
              try clear hfz50_1
              try clear hfz50_2
              try clear hfz50_3
              try clear hfz50_4
              try clear hfz50_5
              try clear p2
              obtain ⟨kq, HA, HJ53, BK252, HB⟩ := hcut
              cases kq with
              | zero => exact absurd HA.out (by simp [chicanelaw14_NamesBack.j2])
              | succ kj53 =>
                have H := HA.out
                clear HA
                simp only [chicanelaw14_NamesBack.j2] at H
                replace H := Option.bind_eq_some_iff.mp H
                obtain ⟨⟨t275, t276, t277, t278, t281⟩, A760, H⟩ := H
                replace H : ((names_Switch.f l0 a2 (!t276)).bind fun bt283 => (if t281 = true then ((names_Switch.f bt283.1 a2 t276).bind fun bt287 => ((chicanelaw14_alive.f kj53).bind fun t291 => (if t291 = true then (if bt283.2 = 0 then (if bt287.2 = 0 then ((chicaneref14_Same.f kj53 bt287.1 l0).bind fun t292 => (if t292 = true then (some (t267 == 141)) else (some false))) else (some false)) else (some false)) else (some false)))) else ((chicanelaw14_alive.f kj53).bind fun t293 => (if t293 = true then (if bt283.2 = 142 then (some (t259 == 142)) else (some false)) else (some false))))) = some r := H
                have A76 := Aside0.mk A760
                clear A760
                replace H := Option.bind_eq_some_iff.mp H
                obtain ⟨⟨t283, t284⟩, A770, H⟩ := H
                replace H : (if t281 = true then ((names_Switch.f t283 a2 t276).bind fun bt287 => ((chicanelaw14_alive.f kj53).bind fun t291 => (if t291 = true then (if t284 = 0 then (if bt287.2 = 0 then ((chicaneref14_Same.f kj53 bt287.1 l0).bind fun t292 => (if t292 = true then (some (t267 == 141)) else (some false))) else (some false)) else (some false)) else (some false)))) else ((chicanelaw14_alive.f kj53).bind fun t293 => (if t293 = true then (if t284 = 142 then (some (t259 == 142)) else (some false)) else (some false)))) = some r := H
                have A77 := Aside0.mk A770
                clear A770
                by_cases c78 : t281 = true
                · subst c78
                  have H1 : ((names_Switch.f t283 a2 t276).bind fun bt287 => ((chicanelaw14_alive.f kj53).bind fun t291 => (if t291 = true then (if t284 = 0 then (if bt287.2 = 0 then ((chicaneref14_Same.f kj53 bt287.1 l0).bind fun t292 => (if t292 = true then (some (t267 == 141)) else (some false))) else (some false)) else (some false)) else (some false)))) = some r := by rw [if_pos rfl] at H; exact H
                  clear H
                  have H := H1
                  clear H1
                  replace H := Option.bind_eq_some_iff.mp H
                  obtain ⟨⟨t287, t288⟩, A790, H⟩ := H
                  replace H : ((chicanelaw14_alive.f kj53).bind fun t291 => (if t291 = true then (if t284 = 0 then (if t288 = 0 then ((chicaneref14_Same.f kj53 t287 l0).bind fun t292 => (if t292 = true then (some (t267 == 141)) else (some false))) else (some false)) else (some false)) else (some false))) = some r := H
                  have A79 := Aside0.mk A790
                  clear A790
                  replace H := Option.bind_eq_some_iff.mp H
                  obtain ⟨t291, A800, H⟩ := H
                  replace H : (if t291 = true then (if t284 = 0 then (if t288 = 0 then ((chicaneref14_Same.f kj53 t287 l0).bind fun t292 => (if t292 = true then (some (t267 == 141)) else (some false))) else (some false)) else (some false)) else (some false)) = some r := H
                  have A80 := Aside0.mk A800
                  clear A800
                  by_cases c81 : t291 = true
                  · subst c81
                    have H1 : (if t284 = 0 then (if t288 = 0 then ((chicaneref14_Same.f kj53 t287 l0).bind fun t292 => (if t292 = true then (some (t267 == 141)) else (some false))) else (some false)) else (some false)) = some r := by rw [if_pos rfl] at H; exact H
                    clear H
                    have H := H1
                    clear H1
                    by_cases c82 : t284 = 0
                    · rw [if_pos c82] at H
                      have c82b0 : (t284 == 0) = true := beq_iff_eq.mpr c82
                      have c82b1 : (t284 != 0) = false := bne_eq_false_iff_eq.mpr c82
                      clear c82
                      by_cases c83 : t288 = 0
                      · rw [if_pos c83] at H
                        have c83b0 : (t288 == 0) = true := beq_iff_eq.mpr c83
                        have c83b1 : (t288 != 0) = false := bne_eq_false_iff_eq.mpr c83
                        clear c83
                        replace H := Option.bind_eq_some_iff.mp H
                        obtain ⟨t292, A840, H⟩ := H
                        replace H : (if t292 = true then (some (t267 == 141)) else (some false)) = some r := H
                        have A84 := Aside0.mk A840
                        clear A840
                        by_cases c85 : t292 = true
                        · subst c85
                          have H1 : (some (t267 == 141)) = some r := by rw [if_pos rfl] at H; exact H
                          clear H
                          have H := H1
                          clear H1
                          obtain rfl := Option.some.inj H
                          go_wp2_with (first | ((with_reducible refine gate_callee (f := 13) rfl ?_); refine goesL_ (some 104) rfl rfl Try.func13 (by kernel_rfl) rfl #[.slice A0 l0.length c0, .string a2] rfl (by (try simp only [List.map_toArray, List.map_cons, List.map_nil]); first | done | rfl | (simp only [List.length_drop, List.length_take]; rfl)) ?_; (with_reducible refine (names_Find.calls _ _ l0 a2 t275 t276 t277 t278 true _ ?side1 ?side2 A76.out).mono ?_); (case side1 => repeat (first | exact (Kd.C_below HR0.out HB.out) | (with_reducible refine Kd.C_alloc ?_ _) | (with_reducible refine Kd.C_drewN ?_ _) | (with_reducible refine Kd.C_drew ?_))); (case side2 => exact HC0.out); rintro e w86 ⟨v279, rfl, ho0, hb⟩; refine ⟨_, rfl, ?_⟩; have n0_ := Aside0.mk (Kd.R_lower (Kd.R_newB ho0 (g := gb252) (o := .cells #[.string a1_0, .int .i64 a1_1, .bool a1_2, .int .i64 a1_3, .int .i64 a1_4, .int .i64 a1_5] 39 (0, 0)) (by (with_reducible repeat (first | refine blk_drewN ?_ _ | refine blk_drew ?_ | refine blk_alloc ?_ _)); exact BK252.out)) (below_size (by repeat (first | (with_reducible first | exact HB.out | apply below_alloc | apply pw_below_drewN | apply below_drew1 | refine below_set ?_ GE252.out) | exact HB.out)))); have n1_ := Aside0.mk (blk_below (g := gb252) (o := .cells #[.string a1_0, .int .i64 a1_1, .bool a1_2, .int .i64 a1_3, .int .i64 a1_4, .int .i64 a1_5] 39 (0, 0)) (by (with_reducible repeat (first | refine blk_drewN ?_ _ | refine blk_drew ?_ | refine blk_alloc ?_ _)); exact BK252.out) hb); have n2_ := Aside0.mk (below_step (by repeat (first | (with_reducible first | exact HB.out | apply below_alloc | apply pw_below_drewN | apply below_drew1 | refine below_set ?_ GE252.out) | exact HB.out)) hb); clear BK252; clear HB; have HO280 := n0_; have BK252 := n1_; have HB := n2_; clear n0_ n1_ n2_; (try clear hb); (try clear hb2); (try clear hk); (try clear hi); (try clear ho0)) | ((with_reducible refine gate_dst (N := 15) rfl ?_); (try (refine gate_guard (by rfl) ?_; dsimp only)); refine box_event ?hg (N := 15) ?hd (cs := #[.string (⟨#[]⟩ : ByteArray), .bool false, .int .i64 0, .slice none 0 0]) (t := 24) ?hr ?_; (case hd => rfl); (case hg => rfl); (case hr => first | (go_simp; done) | (go_simp; rfl)); intro gb282 hg w87 hbox hb; have n0_ := Aside0.mk (Kd.R_below (by (with_reducible repeat (first | apply Kd.R_alloc | apply Kd.R_drewN | apply Kd.R_drew)); exact HO280.out) hb); have n1_ := Aside0.mk (blk_below (g := gb252) (o := .cells #[.string a1_0, .int .i64 a1_1, .bool a1_2, .int .i64 a1_3, .int .i64 a1_4, .int .i64 a1_5] 39 (0, 0)) (by (with_reducible repeat (first | refine blk_drewN ?_ _ | refine blk_drew ?_ | refine blk_alloc ?_ _)); exact BK252.out) hb); have n2_ := Aside0.mk (below_step (by repeat (first | (with_reducible first | exact HB.out | apply below_alloc | apply pw_below_drewN | apply below_drew1 | refine below_set ?_ GE252.out) | exact HB.out)) hb); have n3_ := Aside0.mk (hbox); have n4_ := Aside0.mk ((by rw [hg]; exact (below_size (by repeat (first | (with_reducible first | exact HB.out | apply below_alloc | apply pw_below_drewN | apply below_drew1 | refine below_set ?_ GE252.out) | exact HB.out))) : w.heap.size ≤ gb282)); have n5_ := Aside0.mk ((by rw [hg]; exact (below_size (by repeat (first | (with_reducible first | exact HB.out | apply below_alloc | apply pw_below_drewN | apply below_drew1 | refine below_set ?_ GE252.out) | exact HB.out))) : w.heap.size ≤ gb282)); have n6_ := Aside0.mk ((by rw [hg]; exact Nat.ne_of_lt (blk_lt (g := gb252) (o := .cells #[.string a1_0, .int .i64 a1_1, .bool a1_2, .int .i64 a1_3, .int .i64 a1_4, .int .i64 a1_5] 39 (0, 0)) (by (with_reducible repeat (first | refine blk_drewN ?_ _ | refine blk_drew ?_ | refine blk_alloc ?_ _)); exact BK252.out)) : gb252 ≠ gb282)); have n7_ := Aside0.mk ((by rw [hg]; exact Nat.ne_of_gt (blk_lt (g := gb252) (o := .cells #[.string a1_0, .int .i64 a1_1, .bool a1_2, .int .i64 a1_3, .int .i64 a1_4, .int .i64 a1_5] 39 (0, 0)) (by (with_reducible repeat (first | refine blk_drewN ?_ _ | refine blk_drew ?_ | refine blk_alloc ?_ _)); exact BK252.out)) : gb282 ≠ gb252)); clear HO280; clear BK252; clear HB; have HO280 := n0_; have BK252 := n1_; have HB := n2_; have BK282 := n3_; have GW282 := n4_; have GE282 := n5_; have NB252_282 := n6_; have NB282_252 := n7_; clear n0_ n1_ n2_ n3_ n4_ n5_ n6_ n7_; clear hb hbox hg; have hnb88 := NB282_252.out; have hnc88 := NB252_282.out; have hcz89_0 : w87.cell? ⟨gb282, 0, none⟩ = some (.string (⟨#[]⟩ : ByteArray)) := (blk_cell BK282.out 0).trans rfl; have hcz89_1 : w87.cell? ⟨gb282, 1, none⟩ = some (.bool false) := (blk_cell BK282.out 1).trans rfl; have hcz89_2 : w87.cell? ⟨gb282, 2, none⟩ = some (.int .i64 0) := (blk_cell BK282.out 2).trans rfl; have hcz89_3 : w87.cell? ⟨gb282, 3, none⟩ = some (.slice none 0 0) := (blk_cell BK282.out 3).trans rfl; have hfz89_0 := blk_frozen BK282.out 0; have hfz89_1 := blk_frozen BK282.out 1; have hfz89_2 := blk_frozen BK282.out 2; have hfz89_3 := blk_frozen BK282.out 3; obtain ⟨Ao90, co90, eo90⟩ := Kd.R_slice HO280.out; subst eo90) | ((with_reducible refine gate_callee (f := 22) rfl ?_); refine goesL_ (some 113) rfl rfl Try.func22 (by kernel_rfl) rfl #[.slice A0 l0.length c0, .string a2, .bool (!t276)] rfl (by (try simp only [List.map_toArray, List.map_cons, List.map_nil]); first | done | rfl | (simp only [List.length_drop, List.length_take]; rfl)) ?_; (with_reducible refine (names_Switch.calls _ _ l0 a2 (!t276) t283 t284 _ ?side1 ?side2 A77.out).mono ?_); (case side1 => exact Kd.C_below HR0.out (by repeat (first | (with_reducible first | exact HB.out | apply below_alloc | apply pw_below_drewN | apply below_drew1 | refine below_set ?_ GE252.out | refine below_set ?_ GE282.out) | exact HB.out))); (case side2 => exact HC0.out); rintro e w91 ⟨v285, rfl, ho0, hb⟩; refine ⟨_, rfl, ?_⟩; have n0_ := Aside0.mk (Kd.R_below (by (with_reducible repeat (first | apply Kd.R_alloc | apply Kd.R_drewN | apply Kd.R_drew)); exact (Kd.R_mono (Kd.R_far (p := ⟨gb282, 3, none⟩) (Kd.R_far (p := ⟨gb282, 2, none⟩) (Kd.R_far (p := ⟨gb282, 1, none⟩) (Kd.R_far (p := ⟨gb282, 0, none⟩) (Kd.R_types HO280.out BK282.out (by decide)) (fun _ hk => hk.2) (.string t275)) (fun _ hk => hk.2) (.bool t276)) (fun _ hk => hk.2) (.int .i64 t277)) (fun _ hk => hk.2) (.slice Ao90 t278.length co90)) (fun _ h_ => h_.1))) hb); have n1_ := Aside0.mk (Kd.S_lower (Kd.S_newB (Kd.S_newB (Kd.S_new' ho0 (Kd.R_lt (by (with_reducible repeat (first | apply Kd.R_alloc | apply Kd.R_drewN | apply Kd.R_drew)); exact (Kd.R_mono (Kd.R_far (p := ⟨gb282, 3, none⟩) (Kd.R_far (p := ⟨gb282, 2, none⟩) (Kd.R_far (p := ⟨gb282, 1, none⟩) (Kd.R_far (p := ⟨gb282, 0, none⟩) (Kd.R_types HO280.out BK282.out (by decide)) (fun _ hk => hk.2) (.string t275)) (fun _ hk => hk.2) (.bool t276)) (fun _ hk => hk.2) (.int .i64 t277)) (fun _ hk => hk.2) (.slice Ao90 t278.length co90)) (fun _ h_ => h_.1))))) (g := gb252) (o := .cells #[.string a1_0, .int .i64 a1_1, .bool a1_2, .int .i64 a1_3, .int .i64 a1_4, .int .i64 a1_5] 39 (0, 0)) (by (with_reducible repeat (first | refine blk_drewN ?_ _ | refine blk_drew ?_ | refine blk_alloc ?_ _)); refine blk_far ?_ NB252_282.out _; (with_reducible repeat (first | refine blk_drewN ?_ _ | refine blk_drew ?_ | refine blk_alloc ?_ _)); refine blk_far ?_ NB252_282.out _; (with_reducible repeat (first | refine blk_drewN ?_ _ | refine blk_drew ?_ | refine blk_alloc ?_ _)); refine blk_far ?_ NB252_282.out _; (with_reducible repeat (first | refine blk_drewN ?_ _ | refine blk_drew ?_ | refine blk_alloc ?_ _)); refine blk_far ?_ NB252_282.out _; (with_reducible repeat (first | refine blk_drewN ?_ _ | refine blk_drew ?_ | refine blk_alloc ?_ _)); exact BK252.out)) (g := gb282) (o := .cells #[.string t275, .bool t276, .int .i64 t277, .slice Ao90 t278.length co90] 24 (0, 0)) (by (with_reducible repeat (first | refine blk_drewN ?_ _ | refine blk_drew ?_ | refine blk_alloc ?_ _)); refine blk_put (cs := #[.string t275, .bool t276, .int .i64 t277, .slice none 0 0]) ?_ 3 _ rfl; (with_reducible repeat (first | refine blk_drewN ?_ _ | refine blk_drew ?_ | refine blk_alloc ?_ _)); refine blk_put (cs := #[.string t275, .bool t276, .int .i64 0, .slice none 0 0]) ?_ 2 _ rfl; (with_reducible repeat (first | refine blk_drewN ?_ _ | refine blk_drew ?_ | refine blk_alloc ?_ _)); refine blk_put (cs := #[.string t275, .bool false, .int .i64 0, .slice none 0 0]) ?_ 1 _ rfl; (with_reducible repeat (first | refine blk_drewN ?_ _ | refine blk_drew ?_ | refine blk_alloc ?_ _)); refine blk_put (cs := #[.string (⟨#[]⟩ : ByteArray), .bool false, .int .i64 0, .slice none 0 0]) ?_ 0 _ rfl; (with_reducible repeat (first | refine blk_drewN ?_ _ | refine blk_drew ?_ | refine blk_alloc ?_ _)); exact BK282.out)) (below_size (by repeat (first | (with_reducible first | exact HB.out | apply below_alloc | apply pw_below_drewN | apply below_drew1 | refine below_set ?_ GE252.out | refine below_set ?_ GE282.out) | exact HB.out)))); have n2_ := Aside0.mk (blk_below (g := gb252) (o := .cells #[.string a1_0, .int .i64 a1_1, .bool a1_2, .int .i64 a1_3, .int .i64 a1_4, .int .i64 a1_5] 39 (0, 0)) (by (with_reducible repeat (first | refine blk_drewN ?_ _ | refine blk_drew ?_ | refine blk_alloc ?_ _)); refine blk_far ?_ NB252_282.out _; (with_reducible repeat (first | refine blk_drewN ?_ _ | refine blk_drew ?_ | refine blk_alloc ?_ _)); refine blk_far ?_ NB252_282.out _; (with_reducible repeat (first | refine blk_drewN ?_ _ | refine blk_drew ?_ | refine blk_alloc ?_ _)); refine blk_far ?_ NB252_282.out _; (with_reducible repeat (first | refine blk_drewN ?_ _ | refine blk_drew ?_ | refine blk_alloc ?_ _)); refine blk_far ?_ NB252_282.out _; (with_reducible repeat (first | refine blk_drewN ?_ _ | refine blk_drew ?_ | refine blk_alloc ?_ _)); exact BK252.out) hb); have n3_ := Aside0.mk (blk_below (g := gb282) (o := .cells #[.string t275, .bool t276, .int .i64 t277, .slice Ao90 t278.length co90] 24 (0, 0)) (by (with_reducible repeat (first | refine blk_drewN ?_ _ | refine blk_drew ?_ | refine blk_alloc ?_ _)); refine blk_put (cs := #[.string t275, .bool t276, .int .i64 t277, .slice none 0 0]) ?_ 3 _ rfl; (with_reducible repeat (first | refine blk_drewN ?_ _ | refine blk_drew ?_ | refine blk_alloc ?_ _)); refine blk_put (cs := #[.string t275, .bool t276, .int .i64 0, .slice none 0 0]) ?_ 2 _ rfl; (with_reducible repeat (first | refine blk_drewN ?_ _ | refine blk_drew ?_ | refine blk_alloc ?_ _)); refine blk_put (cs := #[.string t275, .bool false, .int .i64 0, .slice none 0 0]) ?_ 1 _ rfl; (with_reducible repeat (first | refine blk_drewN ?_ _ | refine blk_drew ?_ | refine blk_alloc ?_ _)); refine blk_put (cs := #[.string (⟨#[]⟩ : ByteArray), .bool false, .int .i64 0, .slice none 0 0]) ?_ 0 _ rfl; (with_reducible repeat (first | refine blk_drewN ?_ _ | refine blk_drew ?_ | refine blk_alloc ?_ _)); exact BK282.out) hb); have n4_ := Aside0.mk (below_step (by repeat (first | (with_reducible first | exact HB.out | apply below_alloc | apply pw_below_drewN | apply below_drew1 | refine below_set ?_ GE252.out | refine below_set ?_ GE282.out) | exact HB.out)) hb); clear HO280; clear BK252; clear BK282; clear HB; have HO280 := n0_; have HO286 := n1_; have BK252 := n2_; have BK282 := n3_; have HB := n4_; clear n0_ n1_ n2_ n3_ n4_; (try clear hb); (try clear hb2); (try clear hk); (try clear hi); (try clear ho0); have hcz92_0 : w91.cell? ⟨gb282, 0, none⟩ = some (.string t275) := (blk_cell BK282.out 0).trans rfl; have hcz92_1 : w91.cell? ⟨gb282, 1, none⟩ = some (.bool t276) := (blk_cell BK282.out 1).trans rfl; have hcz92_2 : w91.cell? ⟨gb282, 2, none⟩ = some (.int .i64 t277) := (blk_cell BK282.out 2).trans rfl; have hcz92_3 : w91.cell? ⟨gb282, 3, none⟩ = some (.slice Ao90 t278.length co90) := (blk_cell BK282.out 3).trans rfl; have hfz92_0 := blk_frozen BK282.out 0; have hfz92_1 := blk_frozen BK282.out 1; have hfz92_2 := blk_frozen BK282.out 2; have hfz92_3 := blk_frozen BK282.out 3; obtain ⟨Ao93, co93, eo93⟩ := Kd.S_slice HO286.out; subst eo93) | ((with_reducible refine gate_callee (f := 22) rfl ?_); refine goesL_ (some 132) rfl rfl Try.func22 (by kernel_rfl) rfl #[.slice Ao93 t283.length co93, .string a2, .bool t276] rfl (by (try simp only [List.map_toArray, List.map_cons, List.map_nil]); first | done | rfl | (simp only [List.length_drop, List.length_take]; rfl)) ?_; (with_reducible refine (names_Switch.calls _ _ t283 a2 t276 t287 t288 _ ?side1 ?side2 A79.out).mono ?_); (case side1 => repeat (first | exact (Kd.S_reads' HO286.out).2.2 | (with_reducible refine Kd.C_alloc ?_ _) | (with_reducible refine Kd.C_drewN ?_ _) | (with_reducible refine Kd.C_drew ?_))); (case side2 => exact (Kd.S_reads' HO286.out).2.1); rintro e w94 ⟨v289, rfl, ho0, hb⟩; refine ⟨_, rfl, ?_⟩; have n0_ := Aside0.mk (Kd.R_below (by (with_reducible repeat (first | apply Kd.R_alloc | apply Kd.R_drewN | apply Kd.R_drew)); exact HO280.out) hb); have n1_ := Aside0.mk (Kd.S_elder' (by (with_reducible repeat (first | apply Kd.S_alloc | apply Kd.S_drewN | apply Kd.S_drew)); exact HO286.out) (Kd.S_base ho0) hb); have n2_ := Aside0.mk (Kd.S_lower (Kd.S_newB (Kd.S_newB (Kd.S_new' (Kd.S_new' ho0 (Kd.R_lt (by (with_reducible repeat (first | apply Kd.R_alloc | apply Kd.R_drewN | apply Kd.R_drew)); exact HO280.out))) (Kd.S_lt (by (with_reducible repeat (first | apply Kd.S_alloc | apply Kd.S_drewN | apply Kd.S_drew)); exact HO286.out))) (g := gb252) (o := .cells #[.string a1_0, .int .i64 a1_1, .bool a1_2, .int .i64 a1_3, .int .i64 a1_4, .int .i64 a1_5] 39 (0, 0)) (by (with_reducible repeat (first | refine blk_drewN ?_ _ | refine blk_drew ?_ | refine blk_alloc ?_ _)); exact BK252.out)) (g := gb282) (o := .cells #[.string t275, .bool t276, .int .i64 t277, .slice Ao90 t278.length co90] 24 (0, 0)) (by (with_reducible repeat (first | refine blk_drewN ?_ _ | refine blk_drew ?_ | refine blk_alloc ?_ _)); exact BK282.out)) (below_size (by repeat (first | (with_reducible first | exact HB.out | apply below_alloc | apply pw_below_drewN | apply below_drew1 | refine below_set ?_ GE252.out | refine below_set ?_ GE282.out) | exact HB.out)))); have n3_ := Aside0.mk (blk_below (g := gb252) (o := .cells #[.string a1_0, .int .i64 a1_1, .bool a1_2, .int .i64 a1_3, .int .i64 a1_4, .int .i64 a1_5] 39 (0, 0)) (by (with_reducible repeat (first | refine blk_drewN ?_ _ | refine blk_drew ?_ | refine blk_alloc ?_ _)); exact BK252.out) hb); have n4_ := Aside0.mk (blk_below (g := gb282) (o := .cells #[.string t275, .bool t276, .int .i64 t277, .slice Ao90 t278.length co90] 24 (0, 0)) (by (with_reducible repeat (first | refine blk_drewN ?_ _ | refine blk_drew ?_ | refine blk_alloc ?_ _)); exact BK282.out) hb); have n5_ := Aside0.mk (below_step (by repeat (first | (with_reducible first | exact HB.out | apply below_alloc | apply pw_below_drewN | apply below_drew1 | refine below_set ?_ GE252.out | refine below_set ?_ GE282.out) | exact HB.out)) hb); clear HO280; clear HO286; clear BK252; clear BK282; clear HB; have HO280 := n0_; have HO286 := n1_; have HO290 := n2_; have BK252 := n3_; have BK282 := n4_; have HB := n5_; clear n0_ n1_ n2_ n3_ n4_ n5_; (try clear hb); (try clear hb2); (try clear hk); (try clear hi); (try clear ho0)) | ((with_reducible refine gate_callee (f := 8) rfl ?_); refine goesL_ (some 135) rfl rfl Try.func8 (by kernel_rfl) rfl #[] rfl (by (try simp only [List.map_toArray, List.map_cons, List.map_nil]); first | done | rfl | (simp only [List.length_drop, List.length_take]; rfl)) ?_; (with_reducible refine (chicanelaw14_alive.calls kj53  true _ A80.out).mono ?_); rintro e w95 ⟨rfl, hb⟩; refine ⟨_, rfl, ?_⟩; have n0_ := Aside0.mk (Kd.R_below (by (with_reducible repeat (first | apply Kd.R_alloc | apply Kd.R_drewN | apply Kd.R_drew)); exact HO280.out) hb); have n1_ := Aside0.mk (Kd.S_below (by (with_reducible repeat (first | apply Kd.S_alloc | apply Kd.S_drewN | apply Kd.S_drew)); exact HO286.out) hb); have n2_ := Aside0.mk (Kd.S_below (by (with_reducible repeat (first | apply Kd.S_alloc | apply Kd.S_drewN | apply Kd.S_drew)); exact HO290.out) hb); have n3_ := Aside0.mk (blk_below (g := gb252) (o := .cells #[.string a1_0, .int .i64 a1_1, .bool a1_2, .int .i64 a1_3, .int .i64 a1_4, .int .i64 a1_5] 39 (0, 0)) (by (with_reducible repeat (first | refine blk_drewN ?_ _ | refine blk_drew ?_ | refine blk_alloc ?_ _)); exact BK252.out) hb); have n4_ := Aside0.mk (blk_below (g := gb282) (o := .cells #[.string t275, .bool t276, .int .i64 t277, .slice Ao90 t278.length co90] 24 (0, 0)) (by (with_reducible repeat (first | refine blk_drewN ?_ _ | refine blk_drew ?_ | refine blk_alloc ?_ _)); exact BK282.out) hb); have n5_ := Aside0.mk (below_step (by repeat (first | (with_reducible first | exact HB.out | apply below_alloc | apply pw_below_drewN | apply below_drew1 | refine below_set ?_ GE252.out | refine below_set ?_ GE282.out) | exact HB.out)) hb); clear HO280; clear HO286; clear HO290; clear BK252; clear BK282; clear HB; have HO280 := n0_; have HO286 := n1_; have HO290 := n2_; have BK252 := n3_; have BK282 := n4_; have HB := n5_; clear n0_ n1_ n2_ n3_ n4_ n5_; (try clear hb); (try clear hb2); (try clear hk); (try clear hi); obtain ⟨Ao96, co96, eo96⟩ := Kd.S_slice HO290.out; subst eo96) | (go_at_call 16; (with_reducible refine (chicaneref14_Same.calls kj53 _ _ t287 _ _ l0 true _ ?side1 ?side2 ?side3 ?side4 A84.out).mono ?_); (case side1 => repeat (first | exact (Kd.S_reads' HO290.out).2.2 | (with_reducible refine Kd.C_alloc ?_ _) | (with_reducible refine Kd.C_drewN ?_ _) | (with_reducible refine Kd.C_drew ?_))); (case side2 => exact (Kd.S_reads' HO290.out).2.1); (case side3 => repeat (first | exact (Kd.C_below HR0.out HB.out) | (with_reducible refine Kd.C_alloc ?_ _) | (with_reducible refine Kd.C_drewN ?_ _) | (with_reducible refine Kd.C_drew ?_))); (case side4 => exact HC0.out); rintro e w97 ⟨rfl, hb⟩; have n0_ := Aside0.mk (Kd.R_below (by (with_reducible repeat (first | apply Kd.R_alloc | apply Kd.R_drewN | apply Kd.R_drew)); exact HO280.out) hb); have n1_ := Aside0.mk (Kd.S_below (by (with_reducible repeat (first | apply Kd.S_alloc | apply Kd.S_drewN | apply Kd.S_drew)); exact HO286.out) hb); have n2_ := Aside0.mk (Kd.S_below (by (with_reducible repeat (first | apply Kd.S_alloc | apply Kd.S_drewN | apply Kd.S_drew)); exact HO290.out) hb); have n3_ := Aside0.mk (blk_below (g := gb252) (o := .cells #[.string a1_0, .int .i64 a1_1, .bool a1_2, .int .i64 a1_3, .int .i64 a1_4, .int .i64 a1_5] 39 (0, 0)) (by (with_reducible repeat (first | refine blk_drewN ?_ _ | refine blk_drew ?_ | refine blk_alloc ?_ _)); exact BK252.out) hb); have n4_ := Aside0.mk (blk_below (g := gb282) (o := .cells #[.string t275, .bool t276, .int .i64 t277, .slice Ao90 t278.length co90] 24 (0, 0)) (by (with_reducible repeat (first | refine blk_drewN ?_ _ | refine blk_drew ?_ | refine blk_alloc ?_ _)); exact BK282.out) hb); have n5_ := Aside0.mk (below_step (by repeat (first | (with_reducible first | exact HB.out | apply below_alloc | apply pw_below_drewN | apply below_drew1 | refine below_set ?_ GE252.out | refine below_set ?_ GE282.out) | exact HB.out)) hb); clear HO280; clear HO286; clear HO290; clear BK252; clear BK282; clear HB; have HO280 := n0_; have HO286 := n1_; have HO290 := n2_; have BK252 := n3_; have BK282 := n4_; have HB := n5_; clear n0_ n1_ n2_ n3_ n4_ n5_; (try clear hb); (try clear hb2); (try clear hk); (try clear hi)))
                          go_ret
                          exact ⟨by first | rfl | (simp [errW_none, errW_some] <;> rfl) | (simp [*, errW_none, errW_some] <;> rfl), by repeat (first | (with_reducible first | exact HB.out | apply below_alloc | apply pw_below_drewN | apply below_drew1 | refine below_set ?_ GE252.out | refine below_set ?_ GE282.out) | exact HB.out)⟩
                        · replace c85 := Bool.eq_false_iff.mpr c85
                          subst c85
                          have H1 : (some false) = some r := by rw [if_neg (show ¬ (false = true) by decide)] at H; exact H
                          clear H
                          have H := H1
                          clear H1
                          exact absurd ((Option.some.inj H).trans hr) Bool.false_ne_true
                      · rw [if_neg c83] at H
                        have c83b0 : (t288 == 0) = false := beq_eq_false_iff_ne.mpr c83
                        have c83b1 : (t288 != 0) = true := bne_iff_ne.mpr c83
                        exact absurd ((Option.some.inj H).trans hr) Bool.false_ne_true
                    · rw [if_neg c82] at H
                      have c82b0 : (t284 == 0) = false := beq_eq_false_iff_ne.mpr c82
                      have c82b1 : (t284 != 0) = true := bne_iff_ne.mpr c82
                      exact absurd ((Option.some.inj H).trans hr) Bool.false_ne_true
                  · replace c81 := Bool.eq_false_iff.mpr c81
                    subst c81
                    have H1 : (some false) = some r := by rw [if_neg (show ¬ (false = true) by decide)] at H; exact H
                    clear H
                    have H := H1
                    clear H1
                    exact absurd ((Option.some.inj H).trans hr) Bool.false_ne_true
                · replace c78 := Bool.eq_false_iff.mpr c78
                  subst c78
                  have H1 : ((chicanelaw14_alive.f kj53).bind fun t293 => (if t293 = true then (if t284 = 142 then (some (t259 == 142)) else (some false)) else (some false))) = some r := by rw [if_neg (show ¬ (false = true) by decide)] at H; exact H
                  clear H
                  have H := H1
                  clear H1
                  replace H := Option.bind_eq_some_iff.mp H
                  obtain ⟨t293, A1400, H⟩ := H
                  replace H : (if t293 = true then (if t284 = 142 then (some (t259 == 142)) else (some false)) else (some false)) = some r := H
                  have A140 := Aside0.mk A1400
                  clear A1400
                  by_cases c141 : t293 = true
                  · subst c141
                    have H1 : (if t284 = 142 then (some (t259 == 142)) else (some false)) = some r := by rw [if_pos rfl] at H; exact H
                    clear H
                    have H := H1
                    clear H1
                    by_cases c142 : t284 = 142
                    · rw [if_pos c142] at H
                      have c142b0 : (t284 == 142) = true := beq_iff_eq.mpr c142
                      have c142b1 : (t284 != 142) = false := bne_eq_false_iff_eq.mpr c142
                      clear c142
                      obtain rfl := Option.some.inj H
                      go_wp2_with (first | ((with_reducible refine gate_callee (f := 13) rfl ?_); refine goesL_ (some 104) rfl rfl Try.func13 (by kernel_rfl) rfl #[.slice A0 l0.length c0, .string a2] rfl (by (try simp only [List.map_toArray, List.map_cons, List.map_nil]); first | done | rfl | (simp only [List.length_drop, List.length_take]; rfl)) ?_; (with_reducible refine (names_Find.calls _ _ l0 a2 t275 t276 t277 t278 false _ ?side1 ?side2 A76.out).mono ?_); (case side1 => repeat (first | exact (Kd.C_below HR0.out HB.out) | (with_reducible refine Kd.C_alloc ?_ _) | (with_reducible refine Kd.C_drewN ?_ _) | (with_reducible refine Kd.C_drew ?_))); (case side2 => exact HC0.out); rintro e w143 ⟨v279, rfl, ho0, hb⟩; refine ⟨_, rfl, ?_⟩; have n0_ := Aside0.mk (Kd.R_lower (Kd.R_newB ho0 (g := gb252) (o := .cells #[.string a1_0, .int .i64 a1_1, .bool a1_2, .int .i64 a1_3, .int .i64 a1_4, .int .i64 a1_5] 39 (0, 0)) (by (with_reducible repeat (first | refine blk_drewN ?_ _ | refine blk_drew ?_ | refine blk_alloc ?_ _)); exact BK252.out)) (below_size (by repeat (first | (with_reducible first | exact HB.out | apply below_alloc | apply pw_below_drewN | apply below_drew1 | refine below_set ?_ GE252.out) | exact HB.out)))); have n1_ := Aside0.mk (blk_below (g := gb252) (o := .cells #[.string a1_0, .int .i64 a1_1, .bool a1_2, .int .i64 a1_3, .int .i64 a1_4, .int .i64 a1_5] 39 (0, 0)) (by (with_reducible repeat (first | refine blk_drewN ?_ _ | refine blk_drew ?_ | refine blk_alloc ?_ _)); exact BK252.out) hb); have n2_ := Aside0.mk (below_step (by repeat (first | (with_reducible first | exact HB.out | apply below_alloc | apply pw_below_drewN | apply below_drew1 | refine below_set ?_ GE252.out) | exact HB.out)) hb); clear BK252; clear HB; have HO280 := n0_; have BK252 := n1_; have HB := n2_; clear n0_ n1_ n2_; (try clear hb); (try clear hb2); (try clear hk); (try clear hi); (try clear ho0)) | ((with_reducible refine gate_dst (N := 15) rfl ?_); (try (refine gate_guard (by rfl) ?_; dsimp only)); refine box_event ?hg (N := 15) ?hd (cs := #[.string (⟨#[]⟩ : ByteArray), .bool false, .int .i64 0, .slice none 0 0]) (t := 24) ?hr ?_; (case hd => rfl); (case hg => rfl); (case hr => first | (go_simp; done) | (go_simp; rfl)); intro gb282 hg w144 hbox hb; have n0_ := Aside0.mk (Kd.R_below (by (with_reducible repeat (first | apply Kd.R_alloc | apply Kd.R_drewN | apply Kd.R_drew)); exact HO280.out) hb); have n1_ := Aside0.mk (blk_below (g := gb252) (o := .cells #[.string a1_0, .int .i64 a1_1, .bool a1_2, .int .i64 a1_3, .int .i64 a1_4, .int .i64 a1_5] 39 (0, 0)) (by (with_reducible repeat (first | refine blk_drewN ?_ _ | refine blk_drew ?_ | refine blk_alloc ?_ _)); exact BK252.out) hb); have n2_ := Aside0.mk (below_step (by repeat (first | (with_reducible first | exact HB.out | apply below_alloc | apply pw_below_drewN | apply below_drew1 | refine below_set ?_ GE252.out) | exact HB.out)) hb); have n3_ := Aside0.mk (hbox); have n4_ := Aside0.mk ((by rw [hg]; exact (below_size (by repeat (first | (with_reducible first | exact HB.out | apply below_alloc | apply pw_below_drewN | apply below_drew1 | refine below_set ?_ GE252.out) | exact HB.out))) : w.heap.size ≤ gb282)); have n5_ := Aside0.mk ((by rw [hg]; exact (below_size (by repeat (first | (with_reducible first | exact HB.out | apply below_alloc | apply pw_below_drewN | apply below_drew1 | refine below_set ?_ GE252.out) | exact HB.out))) : w.heap.size ≤ gb282)); have n6_ := Aside0.mk ((by rw [hg]; exact Nat.ne_of_lt (blk_lt (g := gb252) (o := .cells #[.string a1_0, .int .i64 a1_1, .bool a1_2, .int .i64 a1_3, .int .i64 a1_4, .int .i64 a1_5] 39 (0, 0)) (by (with_reducible repeat (first | refine blk_drewN ?_ _ | refine blk_drew ?_ | refine blk_alloc ?_ _)); exact BK252.out)) : gb252 ≠ gb282)); have n7_ := Aside0.mk ((by rw [hg]; exact Nat.ne_of_gt (blk_lt (g := gb252) (o := .cells #[.string a1_0, .int .i64 a1_1, .bool a1_2, .int .i64 a1_3, .int .i64 a1_4, .int .i64 a1_5] 39 (0, 0)) (by (with_reducible repeat (first | refine blk_drewN ?_ _ | refine blk_drew ?_ | refine blk_alloc ?_ _)); exact BK252.out)) : gb282 ≠ gb252)); clear HO280; clear BK252; clear HB; have HO280 := n0_; have BK252 := n1_; have HB := n2_; have BK282 := n3_; have GW282 := n4_; have GE282 := n5_; have NB252_282 := n6_; have NB282_252 := n7_; clear n0_ n1_ n2_ n3_ n4_ n5_ n6_ n7_; clear hb hbox hg; have hnb145 := NB282_252.out; have hnc145 := NB252_282.out; have hcz146_0 : w144.cell? ⟨gb282, 0, none⟩ = some (.string (⟨#[]⟩ : ByteArray)) := (blk_cell BK282.out 0).trans rfl; have hcz146_1 : w144.cell? ⟨gb282, 1, none⟩ = some (.bool false) := (blk_cell BK282.out 1).trans rfl; have hcz146_2 : w144.cell? ⟨gb282, 2, none⟩ = some (.int .i64 0) := (blk_cell BK282.out 2).trans rfl; have hcz146_3 : w144.cell? ⟨gb282, 3, none⟩ = some (.slice none 0 0) := (blk_cell BK282.out 3).trans rfl; have hfz146_0 := blk_frozen BK282.out 0; have hfz146_1 := blk_frozen BK282.out 1; have hfz146_2 := blk_frozen BK282.out 2; have hfz146_3 := blk_frozen BK282.out 3; obtain ⟨Ao147, co147, eo147⟩ := Kd.R_slice HO280.out; subst eo147) | ((with_reducible refine gate_callee (f := 22) rfl ?_); refine goesL_ (some 113) rfl rfl Try.func22 (by kernel_rfl) rfl #[.slice A0 l0.length c0, .string a2, .bool (!t276)] rfl (by (try simp only [List.map_toArray, List.map_cons, List.map_nil]); first | done | rfl | (simp only [List.length_drop, List.length_take]; rfl)) ?_; (with_reducible refine (names_Switch.calls _ _ l0 a2 (!t276) t283 t284 _ ?side1 ?side2 A77.out).mono ?_); (case side1 => exact Kd.C_below HR0.out (by repeat (first | (with_reducible first | exact HB.out | apply below_alloc | apply pw_below_drewN | apply below_drew1 | refine below_set ?_ GE252.out | refine below_set ?_ GE282.out) | exact HB.out))); (case side2 => exact HC0.out); rintro e w148 ⟨v285, rfl, ho0, hb⟩; refine ⟨_, rfl, ?_⟩; have n0_ := Aside0.mk (Kd.R_below (by (with_reducible repeat (first | apply Kd.R_alloc | apply Kd.R_drewN | apply Kd.R_drew)); exact (Kd.R_mono (Kd.R_far (p := ⟨gb282, 3, none⟩) (Kd.R_far (p := ⟨gb282, 2, none⟩) (Kd.R_far (p := ⟨gb282, 1, none⟩) (Kd.R_far (p := ⟨gb282, 0, none⟩) (Kd.R_types HO280.out BK282.out (by decide)) (fun _ hk => hk.2) (.string t275)) (fun _ hk => hk.2) (.bool t276)) (fun _ hk => hk.2) (.int .i64 t277)) (fun _ hk => hk.2) (.slice Ao147 t278.length co147)) (fun _ h_ => h_.1))) hb); have n1_ := Aside0.mk (Kd.S_lower (Kd.S_newB (Kd.S_newB (Kd.S_new' ho0 (Kd.R_lt (by (with_reducible repeat (first | apply Kd.R_alloc | apply Kd.R_drewN | apply Kd.R_drew)); exact (Kd.R_mono (Kd.R_far (p := ⟨gb282, 3, none⟩) (Kd.R_far (p := ⟨gb282, 2, none⟩) (Kd.R_far (p := ⟨gb282, 1, none⟩) (Kd.R_far (p := ⟨gb282, 0, none⟩) (Kd.R_types HO280.out BK282.out (by decide)) (fun _ hk => hk.2) (.string t275)) (fun _ hk => hk.2) (.bool t276)) (fun _ hk => hk.2) (.int .i64 t277)) (fun _ hk => hk.2) (.slice Ao147 t278.length co147)) (fun _ h_ => h_.1))))) (g := gb252) (o := .cells #[.string a1_0, .int .i64 a1_1, .bool a1_2, .int .i64 a1_3, .int .i64 a1_4, .int .i64 a1_5] 39 (0, 0)) (by (with_reducible repeat (first | refine blk_drewN ?_ _ | refine blk_drew ?_ | refine blk_alloc ?_ _)); refine blk_far ?_ NB252_282.out _; (with_reducible repeat (first | refine blk_drewN ?_ _ | refine blk_drew ?_ | refine blk_alloc ?_ _)); refine blk_far ?_ NB252_282.out _; (with_reducible repeat (first | refine blk_drewN ?_ _ | refine blk_drew ?_ | refine blk_alloc ?_ _)); refine blk_far ?_ NB252_282.out _; (with_reducible repeat (first | refine blk_drewN ?_ _ | refine blk_drew ?_ | refine blk_alloc ?_ _)); refine blk_far ?_ NB252_282.out _; (with_reducible repeat (first | refine blk_drewN ?_ _ | refine blk_drew ?_ | refine blk_alloc ?_ _)); exact BK252.out)) (g := gb282) (o := .cells #[.string t275, .bool t276, .int .i64 t277, .slice Ao147 t278.length co147] 24 (0, 0)) (by (with_reducible repeat (first | refine blk_drewN ?_ _ | refine blk_drew ?_ | refine blk_alloc ?_ _)); refine blk_put (cs := #[.string t275, .bool t276, .int .i64 t277, .slice none 0 0]) ?_ 3 _ rfl; (with_reducible repeat (first | refine blk_drewN ?_ _ | refine blk_drew ?_ | refine blk_alloc ?_ _)); refine blk_put (cs := #[.string t275, .bool t276, .int .i64 0, .slice none 0 0]) ?_ 2 _ rfl; (with_reducible repeat (first | refine blk_drewN ?_ _ | refine blk_drew ?_ | refine blk_alloc ?_ _)); refine blk_put (cs := #[.string t275, .bool false, .int .i64 0, .slice none 0 0]) ?_ 1 _ rfl; (with_reducible repeat (first | refine blk_drewN ?_ _ | refine blk_drew ?_ | refine blk_alloc ?_ _)); refine blk_put (cs := #[.string (⟨#[]⟩ : ByteArray), .bool false, .int .i64 0, .slice none 0 0]) ?_ 0 _ rfl; (with_reducible repeat (first | refine blk_drewN ?_ _ | refine blk_drew ?_ | refine blk_alloc ?_ _)); exact BK282.out)) (below_size (by repeat (first | (with_reducible first | exact HB.out | apply below_alloc | apply pw_below_drewN | apply below_drew1 | refine below_set ?_ GE252.out | refine below_set ?_ GE282.out) | exact HB.out)))); have n2_ := Aside0.mk (blk_below (g := gb252) (o := .cells #[.string a1_0, .int .i64 a1_1, .bool a1_2, .int .i64 a1_3, .int .i64 a1_4, .int .i64 a1_5] 39 (0, 0)) (by (with_reducible repeat (first | refine blk_drewN ?_ _ | refine blk_drew ?_ | refine blk_alloc ?_ _)); refine blk_far ?_ NB252_282.out _; (with_reducible repeat (first | refine blk_drewN ?_ _ | refine blk_drew ?_ | refine blk_alloc ?_ _)); refine blk_far ?_ NB252_282.out _; (with_reducible repeat (first | refine blk_drewN ?_ _ | refine blk_drew ?_ | refine blk_alloc ?_ _)); refine blk_far ?_ NB252_282.out _; (with_reducible repeat (first | refine blk_drewN ?_ _ | refine blk_drew ?_ | refine blk_alloc ?_ _)); refine blk_far ?_ NB252_282.out _; (with_reducible repeat (first | refine blk_drewN ?_ _ | refine blk_drew ?_ | refine blk_alloc ?_ _)); exact BK252.out) hb); have n3_ := Aside0.mk (blk_below (g := gb282) (o := .cells #[.string t275, .bool t276, .int .i64 t277, .slice Ao147 t278.length co147] 24 (0, 0)) (by (with_reducible repeat (first | refine blk_drewN ?_ _ | refine blk_drew ?_ | refine blk_alloc ?_ _)); refine blk_put (cs := #[.string t275, .bool t276, .int .i64 t277, .slice none 0 0]) ?_ 3 _ rfl; (with_reducible repeat (first | refine blk_drewN ?_ _ | refine blk_drew ?_ | refine blk_alloc ?_ _)); refine blk_put (cs := #[.string t275, .bool t276, .int .i64 0, .slice none 0 0]) ?_ 2 _ rfl; (with_reducible repeat (first | refine blk_drewN ?_ _ | refine blk_drew ?_ | refine blk_alloc ?_ _)); refine blk_put (cs := #[.string t275, .bool false, .int .i64 0, .slice none 0 0]) ?_ 1 _ rfl; (with_reducible repeat (first | refine blk_drewN ?_ _ | refine blk_drew ?_ | refine blk_alloc ?_ _)); refine blk_put (cs := #[.string (⟨#[]⟩ : ByteArray), .bool false, .int .i64 0, .slice none 0 0]) ?_ 0 _ rfl; (with_reducible repeat (first | refine blk_drewN ?_ _ | refine blk_drew ?_ | refine blk_alloc ?_ _)); exact BK282.out) hb); have n4_ := Aside0.mk (below_step (by repeat (first | (with_reducible first | exact HB.out | apply below_alloc | apply pw_below_drewN | apply below_drew1 | refine below_set ?_ GE252.out | refine below_set ?_ GE282.out) | exact HB.out)) hb); clear HO280; clear BK252; clear BK282; clear HB; have HO280 := n0_; have HO286 := n1_; have BK252 := n2_; have BK282 := n3_; have HB := n4_; clear n0_ n1_ n2_ n3_ n4_; (try clear hb); (try clear hb2); (try clear hk); (try clear hi); (try clear ho0)) | ((with_reducible refine gate_callee (f := 8) rfl ?_); refine goesL_ (some 118) rfl rfl Try.func8 (by kernel_rfl) rfl #[] rfl (by (try simp only [List.map_toArray, List.map_cons, List.map_nil]); first | done | rfl | (simp only [List.length_drop, List.length_take]; rfl)) ?_; (with_reducible refine (chicanelaw14_alive.calls kj53  true _ A140.out).mono ?_); rintro e w149 ⟨rfl, hb⟩; refine ⟨_, rfl, ?_⟩; have n0_ := Aside0.mk (Kd.R_below (by (with_reducible repeat (first | apply Kd.R_alloc | apply Kd.R_drewN | apply Kd.R_drew)); exact HO280.out) hb); have n1_ := Aside0.mk (Kd.S_below (by (with_reducible repeat (first | apply Kd.S_alloc | apply Kd.S_drewN | apply Kd.S_drew)); exact HO286.out) hb); have n2_ := Aside0.mk (blk_below (g := gb252) (o := .cells #[.string a1_0, .int .i64 a1_1, .bool a1_2, .int .i64 a1_3, .int .i64 a1_4, .int .i64 a1_5] 39 (0, 0)) (by (with_reducible repeat (first | refine blk_drewN ?_ _ | refine blk_drew ?_ | refine blk_alloc ?_ _)); exact BK252.out) hb); have n3_ := Aside0.mk (blk_below (g := gb282) (o := .cells #[.string t275, .bool t276, .int .i64 t277, .slice Ao147 t278.length co147] 24 (0, 0)) (by (with_reducible repeat (first | refine blk_drewN ?_ _ | refine blk_drew ?_ | refine blk_alloc ?_ _)); exact BK282.out) hb); have n4_ := Aside0.mk (below_step (by repeat (first | (with_reducible first | exact HB.out | apply below_alloc | apply pw_below_drewN | apply below_drew1 | refine below_set ?_ GE252.out | refine below_set ?_ GE282.out) | exact HB.out)) hb); clear HO280; clear HO286; clear BK252; clear BK282; clear HB; have HO280 := n0_; have HO286 := n1_; have BK252 := n2_; have BK282 := n3_; have HB := n4_; clear n0_ n1_ n2_ n3_ n4_; (try clear hb); (try clear hb2); (try clear hk); (try clear hi)))
                      go_ret
                      exact ⟨by first | rfl | (simp [errW_none, errW_some] <;> rfl) | (simp [*, errW_none, errW_some] <;> rfl), by repeat (first | (with_reducible first | exact HB.out | apply below_alloc | apply pw_below_drewN | apply below_drew1 | refine below_set ?_ GE252.out | refine below_set ?_ GE282.out) | exact HB.out)⟩
                    · rw [if_neg c142] at H
                      have c142b0 : (t284 == 142) = false := beq_eq_false_iff_ne.mpr c142
                      have c142b1 : (t284 != 142) = true := bne_iff_ne.mpr c142
                      exact absurd ((Option.some.inj H).trans hr) Bool.false_ne_true
                  · replace c141 := Bool.eq_false_iff.mpr c141
                    subst c141
                    have H1 : (some false) = some r := by rw [if_neg (show ¬ (false = true) by decide)] at H; exact H
                    clear H
                    have H := H1
                    clear H1
                    exact absurd ((Option.some.inj H).trans hr) Bool.false_ne_true
end Go.Proofs.Ytlglbpjccpdloaa.PNamA
set_option linter.unusedVariables false
set_option linter.unusedSimpArgs false
namespace Go.Proofs.Ytlglbpjccpdloaa.Ext
open Go.RowKit Go.Proofs.Ytlglbpjccpdloaa.PNamA Go.Proofs.Ytlglbpjccpdloaa.Tox Go.Proofs.Ytlglbpjccpdloaa.ToxZ Go.Proofs.Ytlglbpjccpdloaa.NmLaw Go.Proofs.YtlglbpjccpdloaaW.PrintWords Go.Proofs.YtlglbpjccpdloaaW.PrintLast
theorem eqPL_refl (l : List S24) : eqPL l l = true := (eqPL_iff l l).2 rfl
theorem eqPL_ne {a b : List S24} (h : a ≠ b) : eqPL a b = false := by
  cases hb : eqPL a b with
  | false => rfl
  | true => exact absurd ((eqPL_iff a b).1 hb) h
theorem right_need {l : List S24} (h : rightB l = true) : needP l ≤ 96 := by
  have h1 := need_few 8 l (fun x hx => chk_len ((right_len h).2 x hx))
  have h2 := (right_len h).1
  omega
theorem right_same {a : List S24} (b : List S24) (h : rightB a = true) (k : Nat) (hk : 97 ≤ k) : chicaneref14_Same.f k a b = some (eqPL a b) :=
  rsame_is a b (by have := (right_len h).1; omega) (fun x hx => by have := chk_len ((right_len h).2 x hx); omega) k (by have := right_need h; omega)
theorem find_no {l : List S24} {s : ByteArray} (hp : place (namesP l) s < 0) : names_Find.f l s = some ((⟨#[]⟩ : ByteArray), false, 0, ([] : List S39), false) := by
  unfold names_Find.f
  simp only [names_at_api_Proxy.f, Option.bind_some]
  rw [if_pos (show place (l.map (·.f0)) s < 0 from hp)]
theorem find_yes {l : List S24} {s : ByteArray} {k : Nat} {x : S24} (hs : smallP l = true) (hk : place (namesP l) s = (k : Int)) (hx : l[k]? = some x) : names_Find.f l s = some (x.f0, x.f1, x.f2, x.f3, true) := by
  obtain ⟨hl, he⟩ := List.getElem?_eq_some_iff.1 hx
  unfold names_Find.f
  simp only [names_at_api_Proxy.f, names_own.f, if_pos hs, Option.bind_some]
  rw [show place (l.map (·.f0)) s = (k : Int) from hk, if_neg (by omega), if_pos (by omega), if_pos (by omega), rdP_at l k hl, he]
theorem back_j2 {l : List S24} {s : ByteArray} {x8 x12 : Int} (h : rightB l = true) (h8 : place (namesP l) s < 0 → x8 = 142) (h12 : ¬ place (namesP l) s < 0 → x12 = 141) (k : Nat) (hk : 300 ≤ k) :
    chicanelaw14_NamesBack.j2 k l s x8 x12 = some true := by
  obtain ⟨k, rfl⟩ : ∃ m, k = m + 1 := ⟨k - 1, by omega⟩
  have hm : l.length ≤ 4611686018427387904 := by have := (right_len h).1; omega
  have ha := alive_is k (by omega)
  by_cases hp : place (namesP l) s < 0
  · simp only [chicanelaw14_NamesBack.j2, find_no hp, Option.bind_some, names_Switch.f, if_pos hm, change_no _ h hp, ha, h8 hp]
    rfl
  · obtain ⟨p, x, hpk, hx, hs⟩ := place_at hp
    have hc : chkP x = 0 := (right_len h).2 x (List.mem_of_getElem? hx)
    have hr : rightB (l.set p (onT (!x.f1) x).1) = true := right_set h hx rfl (by
      obtain ⟨a, b, c, d, e, f⟩ := (chk_iff x).1 hc
      exact (chk_iff _).2 ⟨a, b, c, d, e, f⟩)
    have hback : changeOf (onT x.f1) (l.set p (onT (!x.f1) x).1) s = (l, 0) := by
      rw [change_at (onT x.f1) hr (x := (onT (!x.f1) x).1) (by rw [names_set (y := (onT (!x.f1) x).1) hx rfl]; exact hpk) (set_get hx)]
      show ((l.set p _).set p x, (0 : Int)) = (l, 0)
      rw [set_back hx]
    have hm2 : (l.set p (onT (!x.f1) x).1).length ≤ 4611686018427387904 := by rw [List.length_set]; exact hm
    simp only [chicanelaw14_NamesBack.j2, find_yes (right_small h) hpk hx, Option.bind_some, names_Switch.f, if_pos hm, change_at (onT (!x.f1)) h hpk hx, if_pos hm2, hback, ha, right_same l h k (by omega), eqPL_refl, h12 hp]
    rfl
theorem back_j1 {l : List S24} {s : ByteArray} {x8 : Int} (h : rightB l = true) (h8 : place (namesP l) s < 0 → x8 = 142) (k : Nat) (hk : 301 ≤ k) :
    chicanelaw14_NamesBack.j1 k l s x8 = some true := by
  obtain ⟨k, rfl⟩ : ∃ m, k = m + 1 := ⟨k - 1, by omega⟩
  have hl := (right_len h).1
  have hm : l.length ≤ 4611686018427387904 := by omega
  have h12 : ¬ place (namesP l) s < 0 → (addOf l s 2).2 = 141 := by
    intro hp
    obtain ⟨p, x, hpk, hx, hs⟩ := place_at hp
    have hn := ((chk_iff x).1 ((right_len h).2 x (List.mem_of_getElem? hx))).1
    rw [hs] at hn
    unfold addOf
    rw [if_pos h, if_pos hn, if_pos (by omega)]
  have hj2 := back_j2 (x12 := (addOf l s 2).2) h h8 h12 k (by omega)
  simp only [chicanelaw14_NamesBack.j1, names_Add.f, if_pos hm, Option.bind_some]
  by_cases h0 : (addOf l s 2).2 = 0
  · obtain ⟨hb, hlen, hr⟩ := add_back h h0
    have hm2 : (addOf l s 2).1.length ≤ 4611686018427387904 := by omega
    have hw : wrap64 ((l.length : Int) + 1) = ((l.length + 1 : Nat) : Int) := by rw [w64_in' _ (by omega) (by omega)]; rfl
    rw [if_pos h0]
    simp only [names_Drop.f, if_pos hm2, Option.bind_some, hb, right_same l h k (by omega), eqPL_refl, hj2, hw]
    rw [if_pos trivial, if_pos trivial, if_pos (by omega)]
  · rw [if_neg h0]
    exact hj2
theorem back_j0t (l : List S24) (s : ByteArray) (t0 : ByteArray) (t1 : Int) (t2 : Bool) (t3 t4 t5 : Int) (k : Nat) (hk : 101 ≤ k) : chicanelaw14_NamesBack.j0 k l s true t0 t1 t2 t3 t4 t5 = some true := by
  obtain ⟨k, rfl⟩ : ∃ m, k = m + 1 := ⟨k - 1, by omega⟩
  simp only [chicanelaw14_NamesBack.j0, alive_is k (by omega), Option.bind_some, if_true]
theorem back_j0 {l : List S24} (h : rightB l = true) (s : ByteArray) (q : Bool) (t0 : ByteArray) (t1 : Int) (t2 : Bool) (t3 t4 t5 : Int) (k : Nat) (hk : 302 ≤ k) : chicanelaw14_NamesBack.j0 k l s q t0 t1 t2 t3 t4 t5 = some true := by
  cases q with
  | true => exact back_j0t l s t0 t1 t2 t3 t4 t5 k (by omega)
  | false =>
    obtain ⟨k, rfl⟩ : ∃ m, k = m + 1 := ⟨k - 1, by omega⟩
    have hl := (right_len h).1
    have hm : l.length ≤ 4611686018427387904 := by omega
    have h8 : place (namesP l) s < 0 → (changeOf (addT ⟨t0, t1, t2, t3, t4, t5⟩) l s).2 = 142 := fun hp => by rw [change_no _ h hp]
    have hj1 := back_j1 (x8 := (changeOf (addT ⟨t0, t1, t2, t3, t4, t5⟩) l s).2) h h8 k (by omega)
    simp only [chicanelaw14_NamesBack.j0, names_AddToxic.f, if_pos hm, Option.bind_some]
    rw [if_neg Bool.false_ne_true]
    by_cases h0 : (changeOf (addT ⟨t0, t1, t2, t3, t4, t5⟩) l s).2 = 0
    · obtain ⟨hb, hne, hr⟩ := tox_back h h0
      have hm2 : (changeOf (addT ⟨t0, t1, t2, t3, t4, t5⟩) l s).1.length ≤ 4611686018427387904 := by have := (right_len hr).1; omega
      rw [if_pos h0]
      simp only [names_DropToxic.f, if_pos hm2, Option.bind_some]
      rw [show changeOf (dropT t0) (changeOf (addT ⟨t0, t1, t2, t3, t4, t5⟩) l s).1 s = (l, 0) from hb]
      simp only [Option.bind_some, right_same l h k (by omega), right_same l hr k (by omega), eqPL_refl, eqPL_ne hne, hj1]
      rfl
    · rw [if_neg h0]
      exact hj1
theorem back_is (l : List S24) (hm : l.length ≤ 9223372036854775807) (hz : ∀ x ∈ l, szP x) (t0 : ByteArray) (t1 : Int) (t2 : Bool) (t3 t4 t5 : Int) (s : ByteArray) :
    chicanelaw14_NamesBack.f (l.length + 400) l t0 t1 t2 t3 t4 t5 s = some true := by
  unfold chicanelaw14_NamesBack.f
  rw [few_is l hm _ (by omega), Option.bind_some]
  cases hf : fewB l with
  | false =>
    rw [if_neg Bool.false_ne_true]
    exact back_j0t l s t0 t1 t2 t3 t4 t5 _ (by omega)
  | true =>
    have hl := (few_at hf).1
    rw [if_pos rfl, rright_is l (by omega) hz _ (by omega), Option.bind_some]
    cases hr : rightB l with
    | false =>
      rw [if_neg Bool.false_ne_true]
      exact back_j0t l s t0 t1 t2 t3 t4 t5 _ (by omega)
    | true =>
      rw [if_pos rfl]
      split
      · exact back_j0t l s t0 t1 t2 t3 t4 t5 _ (by omega)
      · exact back_j0 hr s _ t0 t1 t2 t3 t4 t5 _ (by omega)
end Go.Proofs.Ytlglbpjccpdloaa.Ext
namespace Go.Proofs.Ytlglbpjccpdloaa.namesBack
open Go.ChangeShapes Go.WideShapes Go.ChangeAt Go.RowKit
open Go.ChangeMaps (open_string shut_string)
set_option linter.unusedVariables false
theorem own : ownKnob Try.prog.godebug = none := by kernel_rfl
theorem laidOut : laidOutB Try.prog = true := by kernel_rfl
set_option maxRecDepth 100000 in
theorem lifted (os : Os) (started : os.Started) (H : Type) (enc : TypeId × Value → H) :
    ReturnsInHanded {} Try.checked os 5 .any (Rows.namesBackSpec.pre6 enc Try.prog Try.f5 Rows.namesBackRow.domain false) (Rows.namesBackSpec.post enc Try.prog Try.f5 false true false false) := by
  refine returnsInHanded_of_change_sized (C := Try.checked) own started (by kernel_rfl) Try.func5
    (ChangeSpec.witness6 (enc := enc) (C := Try.checked) false ⟨#[], #[.slice none 0 0, .agg #[.string ByteArray.empty, .int .i64 0, .bool false, .int .i64 0, .int .i64 0, .int .i64 0], .string ByteArray.empty], []⟩ 8 (by kernel_rfl) (by kernel_rfl) (by kernel_rfl) (by kernel_rfl)) ?_
  intro W base args ds gs before hval0 hW hcnd hsz0 _
  have hsz : (DataW.weightsEach Try.prog (Try.f5.params.toList ++ Rows.namesBackSpec.plain.varTypes Try.prog) (ds ++ gs)).all (· ≤ reachBytes) = true := hsz0
  have hval : ∀ (j : Nat) t v, Try.f5.params[j]? = some t → args[j]? = some v → Value.okWide Try.prog W .any base t v := hval0
  have hW' := hW
  obtain ⟨p, q, hA0, hV, rfl, hfz, hnd⟩ := hW
  have hA : DataW.TrodAll enc Try.prog W 0 (fun _ => true) true Try.f5.params.toList args.toList ds p := hA0
  rw [Try.params5] at hA hval hsz
  obtain ⟨v0, vs0, d0, ds0, p0, q0, hargs, rfl, rfl, h0, r0'⟩ := trodAll_cons hA
  obtain ⟨v1, vs1, d1, ds1, p1, q1, rfl, rfl, rfl, h1, r1'⟩ := trodAll_cons r0'
  obtain ⟨v2, vs2, d2, ds2, p2, q2, rfl, rfl, rfl, h2, r2'⟩ := trodAll_cons r1'
  obtain ⟨rfl, rfl, rfl⟩ := trodAll_nil r2'
  obtain rfl : args = #[v0, v1, v2] := by cases args; simp_all
  obtain ⟨rfl, rfl⟩ := trodVars_none hV
  have k0 := h0
  have lt0 : ∀ x ∈ p0, x.block < W.heap.size := by obtain ⟨m, hm⟩ := k0; exact DataW.trod_lt m _ _ _ hm
  obtain ⟨Ax0, len0, cap0, hv0⟩ := okWide_slice Try.underlying26 (hval 0 26 v0 rfl rfl)
  obtain ⟨A0, cp0, l0, rfl, hc0, r0, m0, e0⟩ := Arg.proxies_arg h0 ⟨_, _, _, hv0⟩
  have k1 := h1
  have lt1 : ∀ x ∈ p1, x.block < W.heap.size := by obtain ⟨m, hm⟩ := k1; exact DataW.trod_lt m _ _ _ hm
  obtain ⟨c1, rfl, _⟩ := okWide_struct Try.underlying39 (hval 1 39 v1 rfl rfl)
  obtain ⟨t1, rfl, e1⟩ := Arg.toxic_arg h1
  obtain ⟨s2, rfl, rfl, rfl, y2⟩ := open_string Try.underlying9 (hval 2 9 v2 rfl rfl) h2
  have z2 : s2.size ≤ 140737488351232 := by
    have z := sized_string hsz (j := 2) (t := 9) rfl rfl
    rw [Array.length_toList] at z
    exact z
  clear hA0 hval0 hsz0 hsz
  refine (PNamA.chicanelaw14_NamesBack.calls (l0.length + 400) A0 cp0 l0 t1.f0 t1.f1 t1.f2 t1.f3 t1.f4 t1.f5 s2 true W r0 hc0 rfl (Ext.back_is l0 m0 (fun x hx => ⟨(e0 x hx).1, fun t ht => ((e0 x hx).2.2 t ht).1⟩) t1.f0 t1.f1 t1.f2 t1.f3 t1.f4 t1.f5 s2)).mono fun e W' ⟨he, bel⟩ => ?_
  subst he
  exact ⟨_, rfl, _, _, _, [], _, [], hW', trodAll_mk1 (shut_bool Try.underlying4 _), (trodAll_cons_mk (Below.trod laidOut (by kernel_rfl) (of_decide_eq_true (by kernel_rfl)) k0 bel lt0) (trodAll_cons_mk (Below.trod laidOut (by kernel_rfl) (of_decide_eq_true (by kernel_rfl)) k1 bel lt1) (trodAll_cons_mk (shut_string Try.underlying9 y2) trodAll_mk0))), rfl, bel.frame _, fun h => by cases h⟩
theorem over : Rows.namesBackRow.holds Try.pinned (OpenSpec.ofChange Rows.namesBackSpec) :=
  OpenClaim.holds_of_wide 5 Try.f5 rfl rfl rfl rfl rfl rfl rfl ⟨rfl, rfl, rfl, rfl, rfl⟩ rfl rfl rfl rfl rfl (by kernel_rfl) Try.func5 (by kernel_rfl)
    (of_decide_eq_true (by kernel_rfl)) (by unfold Func.isWrapper; first | (rw [if_pos (by decide +kernel)]; kernel_rfl) | (rw [if_neg (by decide +kernel)]; exact ⟨rfl, rfl⟩))
    (fun os started H enc _ => lifted os started H enc)
theorem proved : Rows.NamesBackSaid := over
end Go.Proofs.Ytlglbpjccpdloaa.namesBack
namespace Go.Proofs.Ytlglbpjccpdloaa
theorem namesBack_holds : Rows.NamesBackSaid := namesBack.proved
end Go.Proofs.Ytlglbpjccpdloaa
