/- Gathered by a program of this session (shake.py): what the claim's theorem needs. -/
import Derived.Test.YtlglbpjccpdloaaGreatNs1
import Derived.Test.YtlglbpjccpdloaaGreatNs2
import Derived.Test.YtlglbpjccpdloaaGreatNs4
set_option linter.unusedVariables false
set_option linter.unusedSimpArgs false
namespace Go.Proofs.YtlglbpjccpdloaaGreat.Ext
end Go.Proofs.YtlglbpjccpdloaaGreat.Ext
namespace Go.Proofs.YtlglbpjccpdloaaGreat.Sq
end Go.Proofs.YtlglbpjccpdloaaGreat.Sq
namespace Go.Proofs.YtlglbpjccpdloaaGreat.ToxZ
end Go.Proofs.YtlglbpjccpdloaaGreat.ToxZ
namespace Go.Proofs.YtlglbpjccpdloaaGreatW.PrintLast
end Go.Proofs.YtlglbpjccpdloaaGreatW.PrintLast
namespace Go.Proofs.YtlglbpjccpdloaaGreatW.PrintMore
end Go.Proofs.YtlglbpjccpdloaaGreatW.PrintMore
namespace Go.Proofs.YtlglbpjccpdloaaGreatW.PrintWords
end Go.Proofs.YtlglbpjccpdloaaGreatW.PrintWords
namespace Go.Proofs.YtlglbpjccpdloaaGreat.PNamA
open Go.Proofs.YtlglbpjccpdloaaGreat.Ext Go.Proofs.YtlglbpjccpdloaaGreat.ToxZ Go.RowKit Go.Proofs.YtlglbpjccpdloaaGreatW.PrintWords Go.Proofs.YtlglbpjccpdloaaGreatW.PrintLast Go.Proofs.YtlglbpjccpdloaaGreatW.PrintMore Go.Proofs.YtlglbpjccpdloaaGreat.Sq
attribute [local go_sem] max2_int min2_int max_two min_two max_three min_three max_four min_four   -- for this text's walks alone
set_option linter.unusedVariables false
set_option linter.unusedSimpArgs false
def chicaneref14_toxics.j0 : Nat → List (S24) → ByteArray → Int → Int → ByteArray → ByteArray → Bool → ByteArray → Int → Bool → Int → Int → Int → Option ((List (S24)) × Int)
 | 0, _, _, _, _, _, _, _, _, _, _, _, _, _ => none
 | k + 1, x0, x6, x244000, x244001, x244002, x244003, x244004, x244005, x244006, x244007, x244008, x244009, x244010 => (chicaneref14_find.f k x0 x6).bind fun t246 => (if x244000 = 3 then (if t246 ≥ 0 then (some (x0, 141)) else (if (x0.length : Int) ≥ 8 then (some (x0, 143)) else ((some (([] : List (S24)) : List (S24))).bind fun y247 => (if y247.length + x0.length < 2513169434916 then ((some (y247 ++ x0 : List (S24))).bind fun y250 => ((some (([(⟨x244005, x244006, x244007, x244008, x244009, x244010⟩ : S24)] : List (S24)) : List (S24))).bind fun y253 => (if y250.length + y253.length < 2513169434916 then (some ((y250 ++ y253), 0)) else (none)))) else (none))))) else (if t246 < 0 then (some (x0, 142)) else (if x244000 = 4 then ((some (([] : List (S24)) : List (S24))).bind fun y259 => (if 0 ≤ t246 then (if t246 ≤ (x0.length : Int) then ((some (x0.take (t246 : Int).toNat : List (S24))).bind fun y262 => (if y259.length + y262.length < 2513169434916 then ((some (y259 ++ y262 : List (S24))).bind fun y267 => (if 0 ≤ (wrap64 (t246 + 1)) then (if (wrap64 (t246 + 1)) ≤ (x0.length : Int) then ((some (x0.drop ((wrap64 (t246 + 1)) : Int).toNat : List (S24))).bind fun y270 => (if y267.length + y270.length < 2513169434916 then (some ((y267 ++ y270), 0)) else (none))) else (none)) else (none))) else (none))) else (none)) else (none))) else (if 0 ≤ t246 then (if t246 < (x0.length : Int) then (if ((rd_T24 x0 t246).f1) = x244006 then (if (((rd_T24 x0 t246).f2) != x244007) = true then (some (x0, 91)) else ((some (([] : List (S24)) : List (S24))).bind fun y280 => (if y280.length + x0.length < 2513169434916 then ((some (y280 ++ x0 : List (S24))).bind fun y283 => (if t246 < (y283.length : Int) then (some ((y283.set (t246 : Int).toNat (⟨x244005, x244006, x244007, x244008, x244009, x244010⟩ : S24)), 0)) else (none))) else (none)))) else (some (x0, 91))) else (none)) else (none)))))
def chicaneref14_toxics.f (k : Nat) (l0 : List (S24)) (a1_0 : Int) (a1_1 : Int) (a1_2 : ByteArray) (a1_3 : ByteArray) (a1_4 : Bool) (a1_5 : ByteArray) (a1_6 : Int) (a1_7 : Bool) (a1_8 : Int) (a1_9 : Int) (a1_10 : Int) : Option ((List (S24)) × Int) := if a1_0 = 4 then (chicaneref14_toxics.j0 k l0 a1_3 a1_0 a1_1 a1_2 a1_3 a1_4 a1_5 a1_6 a1_7 a1_8 a1_9 a1_10) else ((chicaneref09_Check.f a1_5 a1_6 a1_7 a1_8 a1_9 a1_10).bind fun t244 => (if t244 = 0 then (chicaneref14_toxics.j0 k l0 a1_5 a1_0 a1_1 a1_2 a1_3 a1_4 a1_5 a1_6 a1_7 a1_8 a1_9 a1_10) else ((chicaneref09_Check.f a1_5 a1_6 a1_7 a1_8 a1_9 a1_10).bind fun t245 => (some (l0, t245)))))
def chicaneref14_toxics.T12 : Bool × List (List Nat × List Nat) := (true, [([], []), ([], []), ([0, 1], [0, 1]), ([], []), ([3], [3]), ([4], [4]), ([2, 5, 2], [2, 5]), ([6, 6, 0, 1, 2, 3, 4, 5, 6], [6]), ([7, 0, 1, 2, 3, 4, 5, 6, 7], [])])
def chicaneref14_toxics.B12 : List Nat := [0, 0, 3, 0, 8, 24, 63, 127, 255]
theorem chicaneref14_toxics.tab12 : rtab .any (opsOf Tryz.f26 12) = chicaneref14_toxics.T12 := by kernel_rfl
theorem chicaneref14_toxics.bits12 : waitsOk chicaneref14_toxics.T12.2 chicaneref14_toxics.B12 = true := by kernel_rfl
def chicaneref14_toxics.T16 : Bool × List (List Nat × List Nat) := (true, [([], []), ([], []), ([], []), ([1, 2], [1, 2]), ([0, 3], [0, 3]), ([], []), ([], []), ([6], [6]), ([5, 7], [5, 7]), ([4, 8, 4], [4, 8]), ([9, 9, 0, 1, 2, 3, 4, 5, 6, 7, 8, 9], [9]), ([10, 0, 1, 2, 3, 4, 5, 6, 7, 8, 9, 10], [])])
def chicaneref14_toxics.B16 : List Nat := [0, 0, 0, 6, 15, 0, 0, 64, 224, 511, 1023, 2047]
theorem chicaneref14_toxics.tab16 : rtab .any (opsOf Tryz.f26 16) = chicaneref14_toxics.T16 := by kernel_rfl
theorem chicaneref14_toxics.bits16 : waitsOk chicaneref14_toxics.T16.2 chicaneref14_toxics.B16 = true := by kernel_rfl
def chicaneref14_toxics.T17 : Bool × List (List Nat × List Nat) := (true, [([], []), ([], []), ([0, 1], [0, 1]), ([2], [2]), ([3], [3]), ([], []), ([5], [5]), ([6], [6]), ([4, 7], [4, 7]), ([8], [8]), ([9], [9]), ([9], [9]), ([10, 11, 9], [9, 10, 11]), ([12, 9], [9, 12]), ([13, 9], [9, 13]), ([9], [9]), ([15, 9], [9, 15]), ([16, 9], [9, 16]), ([14, 17, 9], [9, 14, 17]), ([9, 18], [9, 18])])
def chicaneref14_toxics.B17 : List Nat := [0, 0, 3, 7, 15, 0, 32, 96, 255, 511, 1023, 1023, 4095, 8191, 16383, 1023, 33791, 99327, 262143, 524287]
theorem chicaneref14_toxics.tab17 : rtab .any (opsOf Tryz.f26 17) = chicaneref14_toxics.T17 := by kernel_rfl
theorem chicaneref14_toxics.bits17 : waitsOk chicaneref14_toxics.T17.2 chicaneref14_toxics.B17 = true := by kernel_rfl
set_option maxHeartbeats 8000000 in
set_option maxRecDepth 100000 in
theorem chicaneref14_toxics.calls (k : Nat) (P0_ : Nat → Prop) (A0 : Option Addr) (c0 : Nat) (l0 : List (S24)) (a1_0 : Int) (a1_1 : Int) (a1_2 : ByteArray) (a1_3 : ByteArray) (a1_4 : Bool) (a1_5 : ByteArray) (a1_6 : Int) (a1_7 : Bool) (a1_8 : Int) (a1_9 : Int) (a1_10 : Int) (r1 : List (S24)) (r2 : Int) (w : World) (hs0 : Kd.V k24 24 w w.heap.size (fun k_ => P0_ k_) (.slice A0 l0.length c0) l0) (h : chicaneref14_toxics.f k l0 a1_0 a1_1 a1_2 a1_3 a1_4 a1_5 a1_6 a1_7 a1_8 a1_9 a1_10 = some (r1, r2)) :
  Calls Tryz.prog 26 #[.slice A0 l0.length c0, .agg #[.int .i64 a1_0, .int .i64 a1_1, .string a1_2, .string a1_3, .bool a1_4, .string a1_5, .int .i64 a1_6, .bool a1_7, .int .i64 a1_8, .int .i64 a1_9, .int .i64 a1_10]] w fun e w' => ∃ v0_ : Value, e = .returned (.tuple #[v0_, .int .i64 r2]) ∧ Kd.V k24 24 w' w.heap.size (fun k_ => (P0_ k_ ∨ w.heap.size ≤ k_)) v0_ r1 ∧ Below w.heap.size w w' := by
 have hu26 := Tryz.underlying26
 have hu24 := Tryz.underlying24
 have HO0 := Aside0.mk (show Kd.V k24 24 w w.heap.size (fun k_ => (P0_ k_ ∨ w.heap.size ≤ k_)) (.slice A0 l0.length c0) l0 from Kd.V_mono hs0 (fun k_ hk => .inl hk))
 have HB := Aside0.mk (Below.refl w.heap.size w)
 have H : (if a1_0 = 4 then (chicaneref14_toxics.j0 k l0 a1_3 a1_0 a1_1 a1_2 a1_3 a1_4 a1_5 a1_6 a1_7 a1_8 a1_9 a1_10) else ((chicaneref09_Check.f a1_5 a1_6 a1_7 a1_8 a1_9 a1_10).bind fun t244 => (if t244 = 0 then (chicaneref14_toxics.j0 k l0 a1_5 a1_0 a1_1 a1_2 a1_3 a1_4 a1_5 a1_6 a1_7 a1_8 a1_9 a1_10) else ((chicaneref09_Check.f a1_5 a1_6 a1_7 a1_8 a1_9 a1_10).bind fun t245 => (some (l0, t245)))))) = some (r1, r2) := h
 clear h
 have HC3 := Aside0.mk H
 clear H
 go_enter Tryz.func26, Tryz.ntmps26
 go_upto_if 14 with (first | ((with_reducible refine gate_dst (N := 3) rfl ?_); refine box_event ?hg (N := 3) ?hd (cs := #[.int .i64 a1_0, .int .i64 a1_1, .string a1_2, .string a1_3, .bool a1_4, .string a1_5, .int .i64 a1_6, .bool a1_7, .int .i64 a1_8, .int .i64 a1_9, .int .i64 a1_10]) (t := 26) ?hr ?_; (case hd => rfl); (case hg => rfl); (case hr => first | (go_simp; done) | (go_simp; rfl)); intro gb243 hg w4 hbox hb; have n0_ := Aside0.mk (Kd.V_below (Kd.V_elderB (qV HO0.out) gb243 (Nat.le_of_eq hg.symm)) hb); have n1_ := Aside0.mk (below_step (qB HB.out) hb); have n2_ := Aside0.mk (hbox); have n3_ := Aside0.mk ((qs hg (below_size (qB HB.out)) : w.heap.size ≤ gb243)); have n4_ := Aside0.mk ((qs hg (below_size (qB HB.out)) : w.heap.size ≤ gb243)); clear HO0 HB; have HO0 := n0_; have HB := n1_; have BK243 := n2_; have GW243 := n3_; have GE243 := n4_; clear n0_ n1_ n2_ n3_ n4_ hb hbox hg; have hcz5 := qC11 BK243.out))
 (try simp only [Act.put, List.setIfInBounds_toArray, List.set_cons_zero, List.set_cons_succ])
 go_cut [6] (fun v6 wc => ∃ (kq : Nat) (x6_2 : ByteArray), v6 = .string x6_2 ∧ Aside0 (chicaneref14_toxics.j0 kq l0 x6_2 a1_0 a1_1 a1_2 a1_3 a1_4 a1_5 a1_6 a1_7 a1_8 a1_9 a1_10 = some (r1, r2)) ∧ Aside0 (kq ≤ k) ∧ Aside0 (Kd.V k24 24 wc w.heap.size (fun k_ => (P0_ k_ ∨ w.heap.size ≤ k_) ∧ k_ ≠ gb243) (.slice A0 l0.length c0) l0) ∧ Aside0 (wc.heap[gb243]? = some (.cells #[.int .i64 a1_0, .int .i64 a1_1, .string a1_2, .string a1_3, .bool a1_4, .string a1_5, .int .i64 a1_6, .bool a1_7, .int .i64 a1_8, .int .i64 a1_9, .int .i64 a1_10] 26 (0, 0))) ∧ Aside0 (Below w.heap.size w wc))
 case first =>
  have H := HC3.out
  clear HC3
  by_cases c6 : a1_0 = 4
  ·rw [if_pos c6] at H
   have c6b0 : (a1_0 == 4) = true := beq_iff_eq.mpr c6
   have c6b1 : (a1_0 != 4) = false := bne_eq_false_iff_eq.mpr c6
   clear c6
   (first | rw [c6b0] | (simp only [i64_w, i32_w]; rw [c6b0]) | skip)
   have H' := Aside0.mk H
   clear H
   have hcz7 := qC11 BK243.out
   go_wp2
   go_meet
   case rel => exact ⟨_, (a1_3), qE1, H', ⟨by first | omega | exact Nat.le_refl _⟩, ⟨by (with_reducible repeat (first | apply Kd.V_alloc | apply Kd.V_drewN | apply Kd.V_drew)); exact HO0.out⟩, ⟨by (with_reducible repeat (first | refine blk_drewN ?_ _ | refine blk_drew ?_ | refine blk_alloc ?_ _)); exact BK243.out⟩, ⟨by repeat (first | (with_reducible first | exact HB.out | apply below_alloc | apply pw_below_drewN | apply below_drew1 | refine below_set ?_ GE243.out) | exact HB.out)⟩⟩
  ·rw [if_neg c6] at H
   have c6b0 : (a1_0 == 4) = false := beq_eq_false_iff_ne.mpr c6
   have c6b1 : (a1_0 != 4) = true := bne_iff_ne.mpr c6
   (first | rw [c6b0] | (simp only [i64_w, i32_w]; rw [c6b0]) | skip)
   replace H := Option.bind_eq_some_iff.mp H
   obtain ⟨t244, A80, H⟩ := H
   replace H : (if t244 = 0 then (chicaneref14_toxics.j0 k l0 a1_5 a1_0 a1_1 a1_2 a1_3 a1_4 a1_5 a1_6 a1_7 a1_8 a1_9 a1_10) else ((chicaneref09_Check.f a1_5 a1_6 a1_7 a1_8 a1_9 a1_10).bind fun t245 => (some (l0, t245)))) = some (r1, r2) := H
   have A8 := Aside0.mk A80
   clear A80
   by_cases c9 : t244 = 0
   ·rw [if_pos c9] at H
    have c9b0 : (t244 == 0) = true := beq_iff_eq.mpr c9
    have c9b1 : (t244 != 0) = false := bne_eq_false_iff_eq.mpr c9
    clear c9
    have H' := Aside0.mk H
    clear H
    have hcz10 := qC11 BK243.out
    go_wp2_with (first | ((with_reducible refine gate_callee (f := 56) rfl ?_); refine goesL_ (some 19) rfl rfl Tryz.func56 qr rfl #[.agg #[.string a1_5, .int .i64 a1_6, .bool a1_7, .int .i64 a1_8, .int .i64 a1_9, .int .i64 a1_10]] rfl qG ?_; (with_reducible refine (chicaneref09_Check.calls a1_5 a1_6 a1_7 a1_8 a1_9 a1_10 t244 _ A8.out).mono ?_); rintro e w11 ⟨rfl, hb⟩; refine ⟨_, rfl, ?_⟩; replace HO0 := Aside0.mk (Kd.V_below (qV HO0.out) hb); replace BK243 := Aside0.mk (blk_below (qK BK243.out) hb); replace HB := Aside0.mk (below_step (qB1 HB.out GE243.out) hb); (try clear hb); (try clear hb2); (try clear hk); (try clear hi)))
    go_meet
    case rel => exact ⟨_, (a1_5), qE1, H', ⟨by first | omega | exact Nat.le_refl _⟩, ⟨by (with_reducible repeat (first | apply Kd.V_alloc | apply Kd.V_drewN | apply Kd.V_drew)); exact HO0.out⟩, ⟨by (with_reducible repeat (first | refine blk_drewN ?_ _ | refine blk_drew ?_ | refine blk_alloc ?_ _)); exact BK243.out⟩, ⟨by repeat (first | (with_reducible first | exact HB.out | apply below_alloc | apply pw_below_drewN | apply below_drew1 | refine below_set ?_ GE243.out) | exact HB.out)⟩⟩
   ·rw [if_neg c9] at H
    have c9b0 : (t244 == 0) = false := beq_eq_false_iff_ne.mpr c9
    have c9b1 : (t244 != 0) = true := bne_iff_ne.mpr c9
    replace H := Option.bind_eq_some_iff.mp H
    obtain ⟨t245, A120, H⟩ := H
    replace H : (some (l0, t245)) = some (r1, r2) := H
    have A12 := Aside0.mk A120
    clear A120
    simp only [Option.some.injEq, Prod.mk.injEq] at H
    obtain ⟨rfl, rfl⟩ := H
    have hcz13 := qC11 BK243.out
    go_wp2_with (first | ((with_reducible refine gate_callee (f := 56) rfl ?_); refine goesL_ (some 19) rfl rfl Tryz.func56 qr rfl #[.agg #[.string a1_5, .int .i64 a1_6, .bool a1_7, .int .i64 a1_8, .int .i64 a1_9, .int .i64 a1_10]] rfl qG ?_; (with_reducible refine (chicaneref09_Check.calls a1_5 a1_6 a1_7 a1_8 a1_9 a1_10 t244 _ A8.out).mono ?_); rintro e w14 ⟨rfl, hb⟩; refine ⟨_, rfl, ?_⟩; replace HO0 := Aside0.mk (Kd.V_below (qV HO0.out) hb); replace BK243 := Aside0.mk (blk_below (qK BK243.out) hb); replace HB := Aside0.mk (below_step (qB1 HB.out GE243.out) hb); (try clear hb); (try clear hb2); (try clear hk); (try clear hi); have hcz15 := qC11 BK243.out) | ((with_reducible refine gate_callee (f := 56) rfl ?_); refine goesL_ (some 24) rfl rfl Tryz.func56 qr rfl #[.agg #[.string a1_5, .int .i64 a1_6, .bool a1_7, .int .i64 a1_8, .int .i64 a1_9, .int .i64 a1_10]] rfl qG ?_; (with_reducible refine (chicaneref09_Check.calls a1_5 a1_6 a1_7 a1_8 a1_9 a1_10 t245 _ A12.out).mono ?_); rintro e w16 ⟨rfl, hb⟩; refine ⟨_, rfl, ?_⟩; replace HO0 := Aside0.mk (Kd.V_below (qV HO0.out) hb); replace BK243 := Aside0.mk (blk_below (qK BK243.out) hb); replace HB := Aside0.mk (below_step (qB1 HB.out GE243.out) hb); (try clear hb); (try clear hb2); (try clear hk); (try clear hi)))
    go_ret2
    exact ⟨_, qE, by (with_reducible repeat (first | apply Kd.V_alloc | apply Kd.V_drewN | apply Kd.V_drew)); exact Kd.V_mono HO0.out (fun _ hk => hk.1), by repeat (first | (with_reducible first | exact HB.out | apply below_alloc | apply pw_below_drewN | apply below_drew1 | refine below_set ?_ GE243.out) | exact HB.out)⟩
 case rest =>
  clear HC3
  try clear c2
  try clear p2
  try clear c5
  try clear c6
  try clear c6b0
  try clear c6b1
  try clear c9
  try clear c9b0
  try clear c9b1
  try clear hcz10
  try clear hcz13
  try clear hcz15
  try clear hcz5
  try clear hcz7
  obtain ⟨kq, x6_2, rfl, HA, HJ2, HO_0, BK243, HB⟩ := hcut
  cases kq with
  | zero => exact absurd HA.out (by simp [chicaneref14_toxics.j0])
  | succ kj2 =>
   have H := HA.out
   clear HA
   simp only [chicaneref14_toxics.j0] at H
   replace H := Option.bind_eq_some_iff.mp H
   obtain ⟨t246, A170, H⟩ := H
   replace H : (if a1_0 = 3 then (if t246 ≥ 0 then (some (l0, 141)) else (if (l0.length : Int) ≥ 8 then (some (l0, 143)) else ((some (([] : List (S24)) : List (S24))).bind fun y247 => (if y247.length + l0.length < 2513169434916 then ((some (y247 ++ l0 : List (S24))).bind fun y250 => ((some (([(⟨a1_5, a1_6, a1_7, a1_8, a1_9, a1_10⟩ : S24)] : List (S24)) : List (S24))).bind fun y253 => (if y250.length + y253.length < 2513169434916 then (some ((y250 ++ y253), 0)) else (none)))) else (none))))) else (if t246 < 0 then (some (l0, 142)) else (if a1_0 = 4 then ((some (([] : List (S24)) : List (S24))).bind fun y259 => (if 0 ≤ t246 then (if t246 ≤ (l0.length : Int) then ((some (l0.take (t246 : Int).toNat : List (S24))).bind fun y262 => (if y259.length + y262.length < 2513169434916 then ((some (y259 ++ y262 : List (S24))).bind fun y267 => (if 0 ≤ (wrap64 (t246 + 1)) then (if (wrap64 (t246 + 1)) ≤ (l0.length : Int) then ((some (l0.drop ((wrap64 (t246 + 1)) : Int).toNat : List (S24))).bind fun y270 => (if y267.length + y270.length < 2513169434916 then (some ((y267 ++ y270), 0)) else (none))) else (none)) else (none))) else (none))) else (none)) else (none))) else (if 0 ≤ t246 then (if t246 < (l0.length : Int) then (if ((rd_T24 l0 t246).f1) = a1_6 then (if (((rd_T24 l0 t246).f2) != a1_7) = true then (some (l0, 91)) else ((some (([] : List (S24)) : List (S24))).bind fun y280 => (if y280.length + l0.length < 2513169434916 then ((some (y280 ++ l0 : List (S24))).bind fun y283 => (if t246 < (y283.length : Int) then (some ((y283.set (t246 : Int).toNat (⟨a1_5, a1_6, a1_7, a1_8, a1_9, a1_10⟩ : S24)), 0)) else (none))) else (none)))) else (some (l0, 91))) else (none)) else (none))))) = some (r1, r2) := H
   have A17 := Aside0.mk A170
   clear A170
   by_cases c18 : a1_0 = 3
   ·rw [if_pos c18] at H
    have c18b0 : (a1_0 == 3) = true := beq_iff_eq.mpr c18
    have c18b1 : (a1_0 != 3) = false := bne_eq_false_iff_eq.mpr c18
    clear c18
    by_cases c19 : t246 ≥ 0
    ·rw [if_pos c19] at H
     have c19b0 : decide (0 ≤ t246) = true := decide_eq_true c19
     clear c19
     simp only [Option.some.injEq, Prod.mk.injEq] at H
     obtain ⟨rfl, rfl⟩ := H
     go_wp2_with (first | ((with_reducible refine gate_callee (f := 57) rfl ?_); refine goesL_ (some 27) rfl rfl Tryz.func57 qr rfl #[.slice A0 l0.length c0, .string x6_2] rfl qG ?_; (with_reducible refine (chicaneref14_find.calls kj2 _ _ l0 x6_2 t246 _ ?side1 ?side2 A17.out).mono ?_); (case side1 => repeat (first | exact (Kd.V_reads' HO_0.out).2.2 | (with_reducible refine Kd.C_alloc ?_ _) | (with_reducible refine Kd.C_drewN ?_ _) | (with_reducible refine Kd.C_drew ?_))); (case side2 => exact (Kd.V_reads' HO_0.out).2.1); rintro e w' ⟨rfl, ⟨nd, rfl⟩⟩; refine ⟨_, rfl, ?_⟩; have hcz20 := qC11 BK243.out))
     go_ret2
     exact ⟨_, qE, by (with_reducible repeat (first | apply Kd.V_alloc | apply Kd.V_drewN | apply Kd.V_drew)); exact Kd.V_mono HO_0.out (fun _ hk => hk.1), by repeat (first | (with_reducible first | exact HB.out | apply below_alloc | apply pw_below_drewN | apply below_drew1 | refine below_set ?_ GE243.out) | exact HB.out)⟩
    ·rw [if_neg c19] at H
     have c19b0 : decide (0 ≤ t246) = false := decide_eq_false c19
     clear c19
     by_cases c21 : (l0.length : Int) ≥ 8
     ·rw [if_pos c21] at H
      have c21b0 : decide (8 ≤ (l0.length : Int)) = true := decide_eq_true c21
      have c21b1 : decide (8 ≤ l0.length) = true := decide_eq_true (by omega)
      clear c21
      simp only [Option.some.injEq, Prod.mk.injEq] at H
      obtain ⟨rfl, rfl⟩ := H
      go_wp2_with (first | ((with_reducible refine gate_callee (f := 57) rfl ?_); refine goesL_ (some 27) rfl rfl Tryz.func57 qr rfl #[.slice A0 l0.length c0, .string x6_2] rfl qG ?_; (with_reducible refine (chicaneref14_find.calls kj2 _ _ l0 x6_2 t246 _ ?side1 ?side2 A17.out).mono ?_); (case side1 => repeat (first | exact (Kd.V_reads' HO_0.out).2.2 | (with_reducible refine Kd.C_alloc ?_ _) | (with_reducible refine Kd.C_drewN ?_ _) | (with_reducible refine Kd.C_drew ?_))); (case side2 => exact (Kd.V_reads' HO_0.out).2.1); rintro e w' ⟨rfl, ⟨nd, rfl⟩⟩; refine ⟨_, rfl, ?_⟩; have hcz22 := qC11 BK243.out))
      go_ret2
      exact ⟨_, qE, by (with_reducible repeat (first | apply Kd.V_alloc | apply Kd.V_drewN | apply Kd.V_drew)); exact Kd.V_mono HO_0.out (fun _ hk => hk.1), by repeat (first | (with_reducible first | exact HB.out | apply below_alloc | apply pw_below_drewN | apply below_drew1 | refine below_set ?_ GE243.out) | exact HB.out)⟩
     ·rw [if_neg c21] at H
      have c21b0 : decide (8 ≤ (l0.length : Int)) = false := decide_eq_false c21
      have c21b1 : decide (8 ≤ l0.length) = false := decide_eq_false (by omega)
      clear c21
      obtain ⟨y247, hy247⟩ : ∃ y_ : List (S24), y_ = (([] : List (S24))) := ⟨_, rfl⟩
      replace H : (if y247.length + l0.length < 2513169434916 then ((some (y247 ++ l0 : List (S24))).bind fun y250 => ((some (([(⟨a1_5, a1_6, a1_7, a1_8, a1_9, a1_10⟩ : S24)] : List (S24)) : List (S24))).bind fun y253 => (if y250.length + y253.length < 2513169434916 then (some ((y250 ++ y253), 0)) else (none)))) else (none)) = some (r1, r2) := by first | (rw [hy247]; with_reducible exact H) | (have H2_ := (Option.bind_some _ _).symm.trans H; rw [hy247]; with_reducible exact H2_) | (have H2_ := (Option.bind_some _ _).symm.trans H; with_reducible exact H2_) | with_reducible exact H | (rw [hy247]; exact H) | exact H
      have Ny247 := Aside0.mk hy247
      clear hy247
      by_cases c23 : y247.length + l0.length < 2513169434916
      ·rw [if_pos c23] at H
       have LMc23 := Aside0.mk c23
       clear c23
       obtain ⟨y250, hy250⟩ : ∃ y_ : List (S24), y_ = (y247 ++ l0) := ⟨_, rfl⟩
       replace H : ((some (([(⟨a1_5, a1_6, a1_7, a1_8, a1_9, a1_10⟩ : S24)] : List (S24)) : List (S24))).bind fun y253 => (if y250.length + y253.length < 2513169434916 then (some ((y250 ++ y253), 0)) else (none))) = some (r1, r2) := by first | (rw [hy250]; with_reducible exact H) | (have H2_ := (Option.bind_some _ _).symm.trans H; rw [hy250]; with_reducible exact H2_) | (have H2_ := (Option.bind_some _ _).symm.trans H; with_reducible exact H2_) | with_reducible exact H | (rw [hy250]; exact H) | exact H
       have Ny250 := Aside0.mk hy250
       clear hy250
       obtain ⟨y253, hy253⟩ : ∃ y_ : List (S24), y_ = (([(⟨a1_5, a1_6, a1_7, a1_8, a1_9, a1_10⟩ : S24)] : List (S24))) := ⟨_, rfl⟩
       replace H : (if y250.length + y253.length < 2513169434916 then (some ((y250 ++ y253), 0)) else (none)) = some (r1, r2) := by first | (rw [hy253]; with_reducible exact H) | (have H2_ := (Option.bind_some _ _).symm.trans H; rw [hy253]; with_reducible exact H2_) | (have H2_ := (Option.bind_some _ _).symm.trans H; with_reducible exact H2_) | with_reducible exact H | (rw [hy253]; exact H) | exact H
       have Ny253 := Aside0.mk hy253
       clear hy253
       by_cases c24 : y250.length + y253.length < 2513169434916
       ·rw [if_pos c24] at H
        have LMc24 := Aside0.mk c24
        clear c24
        obtain ⟨y256, hy256⟩ : ∃ y_ : List (S24), y_ = (y250 ++ y253) := ⟨_, rfl⟩
        replace H : (some (y256, 0)) = some (r1, r2) := by first | (rw [hy256]; with_reducible exact H) | (have H2_ := (Option.bind_some _ _).symm.trans H; rw [hy256]; with_reducible exact H2_) | (have H2_ := (Option.bind_some _ _).symm.trans H; with_reducible exact H2_) | with_reducible exact H | (rw [hy256]; exact H) | exact H
        have Ny256 := Aside0.mk hy256
        clear hy256
        simp only [Option.some.injEq, Prod.mk.injEq] at H
        obtain ⟨rfl, rfl⟩ := H
        try go_wp2_with (first | ((with_reducible refine gate_callee (f := 57) rfl ?_); refine goesL_ (some 27) rfl rfl Tryz.func57 qr rfl #[.slice A0 l0.length c0, .string x6_2] rfl qG ?_; (with_reducible refine (chicaneref14_find.calls kj2 _ _ l0 x6_2 t246 _ ?side1 ?side2 A17.out).mono ?_); (case side1 => repeat (first | exact (Kd.V_reads' HO_0.out).2.2 | (with_reducible refine Kd.C_alloc ?_ _) | (with_reducible refine Kd.C_drewN ?_ _) | (with_reducible refine Kd.C_drew ?_))); (case side2 => exact (Kd.V_reads' HO_0.out).2.1); rintro e w' ⟨rfl, ⟨nd, rfl⟩⟩; refine ⟨_, rfl, ?_⟩; have hcz25 := qC11 BK243.out))
        (try (rw [drewN_self wc]; generalize hq_ : World.drewN wc _ = wc; replace HO_0 : Aside0 (Kd.V k24 24 wc w.heap.size (fun k_ => (P0_ k_ ∨ w.heap.size ≤ k_) ∧ k_ ≠ gb243) (.slice A0 l0.length c0) l0) := ⟨by rw [← hq_]; exact (qV HO_0.out)⟩; replace BK243 : Aside0 (wc.heap[gb243]? = some (.cells #[.int .i64 a1_0, .int .i64 a1_1, .string a1_2, .string a1_3, .bool a1_4, .string a1_5, .int .i64 a1_6, .bool a1_7, .int .i64 a1_8, .int .i64 a1_9, .int .i64 a1_10] 26 (0, 0))) := ⟨by rw [← hq_]; exact (qK BK243.out)⟩; replace HB : Aside0 (Below w.heap.size w wc) := ⟨by rw [← hq_]; exact (qB1 HB.out GE243.out)⟩; clear hq_))
        replace HO_0 := Aside0.mk (Kd.V_drew HO_0.out)
        replace BK243 := Aside0.mk (blk_drew BK243.out)
        replace HB := Aside0.mk (below_drew1 HB.out)
        refine start_ (n := 9) (S := fun w' => w'.cell? ⟨gb243, 0, none⟩ = some (.int .i64 a1_0) ∧ w'.cell? ⟨gb243, 1, none⟩ = some (.int .i64 a1_1) ∧ w'.cell? ⟨gb243, 2, none⟩ = some (.string a1_2) ∧ w'.cell? ⟨gb243, 3, none⟩ = some (.string a1_3) ∧ w'.cell? ⟨gb243, 4, none⟩ = some (.bool a1_4) ∧ w'.cell? ⟨gb243, 5, none⟩ = some (.string a1_5) ∧ w'.cell? ⟨gb243, 6, none⟩ = some (.int .i64 a1_6) ∧ w'.cell? ⟨gb243, 7, none⟩ = some (.bool a1_7) ∧ w'.cell? ⟨gb243, 8, none⟩ = some (.int .i64 a1_8) ∧ w'.cell? ⟨gb243, 9, none⟩ = some (.int .i64 a1_9) ∧ w'.cell? ⟨gb243, 10, none⟩ = some (.int .i64 a1_10)) (ds := []) #[false, false, false, false, false, false, false, false, false] qr rfl rfl ⟨(blk_cell BK243.out 0).trans rfl, (blk_cell BK243.out 1).trans rfl, (blk_cell BK243.out 2).trans rfl, (blk_cell BK243.out 3).trans rfl, (blk_cell BK243.out 4).trans rfl, (blk_cell BK243.out 5).trans rfl, (blk_cell BK243.out 6).trans rfl, (blk_cell BK243.out 7).trans rfl, (blk_cell BK243.out 8).trans rfl, (blk_cell BK243.out 9).trans rfl, (blk_cell BK243.out 10).trans rfl⟩ (fun hHeld => ?_); refine with_tabW chicaneref14_toxics.tab12 chicaneref14_toxics.bits12 (fun HT_ HW_ => ?_)
        generalize wc.drew = w26 at HO_0 BK243 HB hHeld ⊢
        refine qP (i := 1) (N := some 39) HT_.out ?_
        refine qP (i := 3) (N := some 41) HT_.out ?_
        refine take_ (i := 4) (N := some 42) (v := ?_) (a' := ?_) #[false, true, false, true, true, false, false, false, false] rfl rfl (take_ofW HT_.out HW_.out qr) (fun _ _ _ h => h) (Or.inl ⟨by rfl, ?_⟩) hHeld ?_ ?_
        rotate_left
        ·rintro w' ⟨s0, s1, s2, s3, s4, s5, s6, s7, s8, s9, s10⟩
         go_simp
         with_reducible rfl
        rotate_left
        ·simp only [Act.put, List.setIfInBounds_toArray, List.set_cons_zero, List.set_cons_succ, i64_w, i32_w]
         rfl
        refine join_ (σ := Value × Value × Value) 3 #[true, true, true, true, true, true, false, false, false] (fun s_ => [(38, s_.1), (40, s_.2.1), (43, s_.2.2)]) (fun s_ w' => (w'.cell? ⟨gb243, 0, none⟩ = some (.int .i64 a1_0) ∧ w'.cell? ⟨gb243, 1, none⟩ = some (.int .i64 a1_1) ∧ w'.cell? ⟨gb243, 2, none⟩ = some (.string a1_2) ∧ w'.cell? ⟨gb243, 3, none⟩ = some (.string a1_3) ∧ w'.cell? ⟨gb243, 4, none⟩ = some (.bool a1_4) ∧ w'.cell? ⟨gb243, 5, none⟩ = some (.string a1_5) ∧ w'.cell? ⟨gb243, 6, none⟩ = some (.int .i64 a1_6) ∧ w'.cell? ⟨gb243, 7, none⟩ = some (.bool a1_7) ∧ w'.cell? ⟨gb243, 8, none⟩ = some (.int .i64 a1_8) ∧ w'.cell? ⟨gb243, 9, none⟩ = some (.int .i64 a1_9) ∧ w'.cell? ⟨gb243, 10, none⟩ = some (.int .i64 a1_10)) ∧ (Kd.R k24 24 w' w.heap.size (fun k_ => (w.heap.size ≤ k_) ∧ some k_ ≠ (s_.2.2 : Value).ownBlock) s_.2.1 y250) ∧ (Kd.R k24 24 w' w.heap.size (fun k_ => (w.heap.size ≤ k_) ∧ some k_ ≠ (s_.2.1 : Value).ownBlock) s_.2.2 y253) ∧ (Kd.V k24 24 w' w.heap.size (fun k_ => (P0_ k_ ∨ w.heap.size ≤ k_) ∧ some k_ ≠ (s_.2.1 : Value).ownBlock ∧ some k_ ≠ (s_.2.2 : Value).ownBlock ∧ k_ ≠ gb243) (.slice A0 l0.length c0) l0) ∧ (w'.heap[gb243]? = some (.cells #[.int .i64 a1_0, .int .i64 a1_1, .string a1_2, .string a1_3, .bool a1_4, .string a1_5, .int .i64 a1_6, .bool a1_7, .int .i64 a1_8, .int .i64 a1_9, .int .i64 a1_10] 26 (0, 0))) ∧ (Below w.heap.size w w')) ?_ ?_
        rotate_left
        ·intro hCont
         refine two_ (i := 0) (j := 5) (Ni := some 38) (Nj := some 43) #[true, true, false, true, true, false, false, false, false] #[false, true, false, true, true, true, false, false, false] rfl rfl rfl rfl (two_of HT_.out qr) (by decide) (by decide) (fun K hK => ?_) (fun K hK => ?_)
         ·skip
          refine Kd.R_lit_step k24 _ 24 ?hg (N := 38) ?hd (xs := ([] : List (S24))) (inner := []) (ok := fun _ => True) (okp := fun _ => True) ?hr ?hp (fun _ hk => hk) trivial (Below.refl _ _) (Nat.le_refl _) (by simp) ?_; (case hd => rfl); (case hg => rfl); (case hr => first | (go_simp; done) | (go_simp; rfl)); (case hp => exact (Reps.none _ _))
          intro v248 w27 ho28 hb hg_ hnew_
          clear hg_ hnew_
          (first | rw [← Ny247.out] at ho28 | (simp only [Int.reduceToNat] at ho28; rw [← Ny247.out] at ho28))
          replace HO_0 := Aside0.mk (Kd.V_elder' (qV HO_0.out) (Kd.R_base ho28) hb)
          have HO249 := Aside0.mk (Kd.R_lower (Kd.R_newM (M := fun k_ => (w.heap.size ≤ k_)) ho28 (below_size (qB1 HB.out GE243.out)) (fun k_ h_ => h_)) (below_size (qB1 HB.out GE243.out)))
          replace BK243 := Aside0.mk (blk_below (qK BK243.out) hb)
          replace HB := Aside0.mk (below_step (qB1 HB.out GE243.out) hb)
          clear hb ho28
          refine hK.out _ _ ⟨(blk_cell BK243.out 0).trans rfl, (blk_cell BK243.out 1).trans rfl, (blk_cell BK243.out 2).trans rfl, (blk_cell BK243.out 3).trans rfl, (blk_cell BK243.out 4).trans rfl, (blk_cell BK243.out 5).trans rfl, (blk_cell BK243.out 6).trans rfl, (blk_cell BK243.out 7).trans rfl, (blk_cell BK243.out 8).trans rfl, (blk_cell BK243.out 9).trans rfl, (blk_cell BK243.out 10).trans rfl⟩ (fun hHeld => ?_)
          clear hK K
          refine qM (N := some 38) ?_
          refine two_ (i := 2) (j := 5) (Ni := some 40) (Nj := some 43) #[true, true, true, true, true, false, false, false, false] #[true, true, false, true, true, true, false, false, false] rfl rfl rfl rfl (two_of HT_.out qr) (by decide) (by decide) (fun K hK => ?_) (fun K hK => ?_)
          ·skip
           refine Kd.R_append_rows_step k24 (w0 := w) w.heap.size (by rfl) (.tmp 38) (.tmp 39) 37 24 (.agg #[(.string ⟨#[]⟩), (.int .i64 0), (.bool false), (.int .i64 0), (.int .i64 0), (.int .i64 0)]) 56 rfl Tryz.underlying37 info24 rfl (by decide) (by omega) v248 y247 l0 _ _ _ (fun k_ => (w.heap.size ≤ k_)) (fun _ => False) rfl rfl ?aO ?aR (fun _ _ h => h) (fun _ h => h.elim) ?aF ?aB ?aS ?aL ?_
           (case aR => repeat (first | exact (Kd.V_reads' HO_0.out).2.2 | (with_reducible refine Kd.C_alloc ?_ _) | (with_reducible refine Kd.C_drewN ?_ _) | (with_reducible refine Kd.C_drew ?_)))
           (case aB => exact (qB1 HB.out GE243.out))
           (case aF => exact (fun k_ hk => (Nat.le_trans (below_size (qB1 HB.out GE243.out)) hk)))
           (case aO => exact (qR (Kd.R_mono HO249.out (fun _ hk => hk.1))))
           (case aS => exact (below_size (qB1 HB.out GE243.out)))
           (case aL => have := LMc23.out; omega)
           intro v251 w29 ho hb hg hat
           rw [← Ny250.out] at ho
           replace HO_0 := Aside0.mk (Kd.V_afterv (ok := (fun k_ => (P0_ k_ ∨ w.heap.size ≤ k_) ∧ k_ ≠ gb243)) (qV HO_0.out) hg hat)
           replace BK243 := Aside0.mk (blk_grown (qK BK243.out) hg (Kd.R_ne HO249.out BK243.out (by decide)))
           replace HB := Aside0.mk (hb)
           have HO252 := Aside0.mk (ho)
           clear HO249 ho hb hg hat
           refine hK.out _ _ ⟨(blk_cell BK243.out 0).trans rfl, (blk_cell BK243.out 1).trans rfl, (blk_cell BK243.out 2).trans rfl, (blk_cell BK243.out 3).trans rfl, (blk_cell BK243.out 4).trans rfl, (blk_cell BK243.out 5).trans rfl, (blk_cell BK243.out 6).trans rfl, (blk_cell BK243.out 7).trans rfl, (blk_cell BK243.out 8).trans rfl, (blk_cell BK243.out 9).trans rfl, (blk_cell BK243.out 10).trans rfl⟩ (fun hHeld => ?_)
           clear hK K
           refine qM (N := some 40) ?_
           refine qO (i := 5) (N := some 43) HT_.out (fun K hK => ?_)
           refine Kd.R_lit_step k24 _ 24 ?hg (N := 43) ?hd (xs := ([(⟨a1_5, a1_6, a1_7, a1_8, a1_9, a1_10⟩ : S24)] : List (S24))) (inner := [.string a1_5, .int .i64 a1_6, .bool a1_7, .int .i64 a1_8, .int .i64 a1_9, .int .i64 a1_10]) (ok := fun _ => True) (okp := fun _ => True) ?hr ?hp (fun _ hk => hk) trivial (Below.refl _ _) (Nat.le_refl _) (by simp) ?_; (case hd => rfl); (case hg => rfl); (case hr => first | (go_simp; done) | (go_simp; rfl)); (case hp => exact (Reps.c6 (show Kd.M k24 _ _ _ (⟨a1_5, a1_6, a1_7, a1_8, a1_9, a1_10⟩ : S24) [.string a1_5, .int .i64 a1_6, .bool a1_7, .int .i64 a1_8, .int .i64 a1_9, .int .i64 a1_10] from (k24_mkM _ _ _ (⟨a1_5, a1_6, a1_7, a1_8, a1_9, a1_10⟩ : S24) )) (Reps.none _ _)))
           intro v254 w30 ho31 hb hg_ hnew_
           clear hg_ hnew_
           (first | rw [← Ny253.out] at ho31 | (simp only [Int.reduceToNat] at ho31; rw [← Ny253.out] at ho31))
           have n0_ := Aside0.mk (Kd.V_elder' (qV HO_0.out) (Kd.R_base ho31) hb)
           have n1_ := Aside0.mk (Kd.R_elder' (qR HO252.out) (Kd.R_base ho31) hb)
           have n2_ := Aside0.mk (Kd.R_lower (Kd.R_new' (Kd.R_newM (M := fun k_ => (w.heap.size ≤ k_)) ho31 (below_size (qB1 HB.out GE243.out)) (fun k_ h_ => h_)) (Kd.R_lt (qR HO252.out))) (below_size (qB1 HB.out GE243.out)))
           have n3_ := Aside0.mk (blk_below (qK BK243.out) hb)
           have n4_ := Aside0.mk (below_step (qB1 HB.out GE243.out) hb)
           clear HO_0 HO252 BK243 HB
           have HO_0 := n0_
           have HO252 := n1_
           have HO255 := n2_
           have BK243 := n3_
           have HB := n4_
           clear n0_ n1_ n2_ n3_ n4_ hb ho31
           refine hK.out _ _ ⟨(blk_cell BK243.out 0).trans rfl, (blk_cell BK243.out 1).trans rfl, (blk_cell BK243.out 2).trans rfl, (blk_cell BK243.out 3).trans rfl, (blk_cell BK243.out 4).trans rfl, (blk_cell BK243.out 5).trans rfl, (blk_cell BK243.out 6).trans rfl, (blk_cell BK243.out 7).trans rfl, (blk_cell BK243.out 8).trans rfl, (blk_cell BK243.out 9).trans rfl, (blk_cell BK243.out 10).trans rfl⟩ (fun hHeld => ?_)
           clear hK K
           refine qM (N := some 43) ?_
           exact norm_ (by simp only [putAll, Act.put, List.setIfInBounds_toArray, List.set_cons_zero, List.set_cons_succ]) (hCont (v248, v251, v254) _ ⟨hHeld, (qR HO252.out), (qR (Kd.R_mono HO255.out (fun _ hk => ⟨hk.1.1, hk.2⟩))), (qV (Kd.V_mono HO_0.out (fun _ hk => ⟨hk.1.1.1, ⟨hk.1.2, ⟨hk.2, hk.1.1.2⟩⟩⟩))), (qK BK243.out), (qB1 HB.out GE243.out)⟩)
          ·skip
           refine Kd.R_lit_step k24 _ 24 ?hg (N := 43) ?hd (xs := ([(⟨a1_5, a1_6, a1_7, a1_8, a1_9, a1_10⟩ : S24)] : List (S24))) (inner := [.string a1_5, .int .i64 a1_6, .bool a1_7, .int .i64 a1_8, .int .i64 a1_9, .int .i64 a1_10]) (ok := fun _ => True) (okp := fun _ => True) ?hr ?hp (fun _ hk => hk) trivial (Below.refl _ _) (Nat.le_refl _) (by simp) ?_; (case hd => rfl); (case hg => rfl); (case hr => first | (go_simp; done) | (go_simp; rfl)); (case hp => exact (Reps.c6 (show Kd.M k24 _ _ _ (⟨a1_5, a1_6, a1_7, a1_8, a1_9, a1_10⟩ : S24) [.string a1_5, .int .i64 a1_6, .bool a1_7, .int .i64 a1_8, .int .i64 a1_9, .int .i64 a1_10] from (k24_mkM _ _ _ (⟨a1_5, a1_6, a1_7, a1_8, a1_9, a1_10⟩ : S24) )) (Reps.none _ _)))
           intro v254 w29 ho30 hb hg_ hnew_
           clear hg_ hnew_
           (first | rw [← Ny253.out] at ho30 | (simp only [Int.reduceToNat] at ho30; rw [← Ny253.out] at ho30))
           have n0_ := Aside0.mk (Kd.V_elder' (qV HO_0.out) (Kd.R_base ho30) hb)
           have n1_ := Aside0.mk (Kd.R_elder' (qR HO249.out) (Kd.R_base ho30) hb)
           have n2_ := Aside0.mk (Kd.R_lower (Kd.R_new' (Kd.R_newM (M := fun k_ => (w.heap.size ≤ k_)) ho30 (below_size (qB1 HB.out GE243.out)) (fun k_ h_ => h_)) (Kd.R_lt (qR HO249.out))) (below_size (qB1 HB.out GE243.out)))
           have n3_ := Aside0.mk (blk_below (qK BK243.out) hb)
           have n4_ := Aside0.mk (below_step (qB1 HB.out GE243.out) hb)
           clear HO_0 HO249 BK243 HB
           have HO_0 := n0_
           have HO249 := n1_
           have HO255 := n2_
           have BK243 := n3_
           have HB := n4_
           clear n0_ n1_ n2_ n3_ n4_ hb ho30
           refine hK.out _ _ ⟨(blk_cell BK243.out 0).trans rfl, (blk_cell BK243.out 1).trans rfl, (blk_cell BK243.out 2).trans rfl, (blk_cell BK243.out 3).trans rfl, (blk_cell BK243.out 4).trans rfl, (blk_cell BK243.out 5).trans rfl, (blk_cell BK243.out 6).trans rfl, (blk_cell BK243.out 7).trans rfl, (blk_cell BK243.out 8).trans rfl, (blk_cell BK243.out 9).trans rfl, (blk_cell BK243.out 10).trans rfl⟩ (fun hHeld => ?_)
           clear hK K
           refine qM (N := some 43) ?_
           refine qO (i := 2) (N := some 40) HT_.out (fun K hK => ?_)
           refine Kd.R_append_rows_step k24 (w0 := w) w.heap.size (by rfl) (.tmp 38) (.tmp 39) 37 24 (.agg #[(.string ⟨#[]⟩), (.int .i64 0), (.bool false), (.int .i64 0), (.int .i64 0), (.int .i64 0)]) 56 rfl Tryz.underlying37 info24 rfl (by decide) (by omega) v248 y247 l0 _ _ _ (fun k_ => (w.heap.size ≤ k_) ∧ some k_ ≠ (v254 : Value).ownBlock) (fun _ => False) rfl rfl ?aO ?aR (fun _ _ h => h) (fun _ h => h.elim) ?aF ?aB ?aS ?aL ?_
           (case aR => repeat (first | exact (Kd.V_reads' HO_0.out).2.2 | (with_reducible refine Kd.C_alloc ?_ _) | (with_reducible refine Kd.C_drewN ?_ _) | (with_reducible refine Kd.C_drew ?_)))
           (case aB => exact (qB1 HB.out GE243.out))
           (case aF => exact (fun k_ hk => ⟨(Nat.le_trans (below_size (qB1 HB.out GE243.out)) hk), Kd.fresh' (Kd.R_lt (qR HO255.out)) k_ hk⟩))
           (case aO => exact (qR (Kd.R_mono HO249.out (fun _ hk => ⟨hk.1.1, hk.2⟩))))
           (case aS => exact (below_size (qB1 HB.out GE243.out)))
           (case aL => have := LMc23.out; omega)
           intro v251 w31 ho hb hg hat
           rw [← Ny250.out] at ho
           replace HO_0 := Aside0.mk (Kd.V_afterv (ok := (fun k_ => (P0_ k_ ∨ w.heap.size ≤ k_) ∧ some k_ ≠ (v254 : Value).ownBlock ∧ k_ ≠ gb243)) (qV (Kd.V_mono HO_0.out (fun _ hk => ⟨⟨hk.1.1.1, ⟨hk.2, hk.1.1.2⟩⟩, hk.1.2⟩))) hg hat)
           replace BK243 := Aside0.mk (blk_grown (qK BK243.out) hg (Kd.R_ne HO249.out BK243.out (by decide)))
           replace HO255 := Aside0.mk (Kd.R_after (ok := (fun k_ => (w.heap.size ≤ k_))) (qR (Kd.R_mono HO255.out (fun _ hk => ⟨hk.1.1, hk.2⟩))) hg hat)
           replace HB := Aside0.mk (hb)
           have HO252 := Aside0.mk (ho)
           clear HO249 ho hb hg hat
           refine hK.out _ _ ⟨(blk_cell BK243.out 0).trans rfl, (blk_cell BK243.out 1).trans rfl, (blk_cell BK243.out 2).trans rfl, (blk_cell BK243.out 3).trans rfl, (blk_cell BK243.out 4).trans rfl, (blk_cell BK243.out 5).trans rfl, (blk_cell BK243.out 6).trans rfl, (blk_cell BK243.out 7).trans rfl, (blk_cell BK243.out 8).trans rfl, (blk_cell BK243.out 9).trans rfl, (blk_cell BK243.out 10).trans rfl⟩ (fun hHeld => ?_)
           clear hK K
           refine qM (N := some 40) ?_
           exact norm_ (by simp only [putAll, Act.put, List.setIfInBounds_toArray, List.set_cons_zero, List.set_cons_succ]) (hCont (v248, v251, v254) _ ⟨hHeld, (qR HO252.out), (qR HO255.out), (qV (Kd.V_mono HO_0.out (fun _ hk => ⟨hk.1.1, ⟨hk.2, ⟨hk.1.2.1, hk.1.2.2⟩⟩⟩))), (qK BK243.out), (qB1 HB.out GE243.out)⟩)
         ·skip
          refine Kd.R_lit_step k24 _ 24 ?hg (N := 43) ?hd (xs := ([(⟨a1_5, a1_6, a1_7, a1_8, a1_9, a1_10⟩ : S24)] : List (S24))) (inner := [.string a1_5, .int .i64 a1_6, .bool a1_7, .int .i64 a1_8, .int .i64 a1_9, .int .i64 a1_10]) (ok := fun _ => True) (okp := fun _ => True) ?hr ?hp (fun _ hk => hk) trivial (Below.refl _ _) (Nat.le_refl _) (by simp) ?_; (case hd => rfl); (case hg => rfl); (case hr => first | (go_simp; done) | (go_simp; rfl)); (case hp => exact (Reps.c6 (show Kd.M k24 _ _ _ (⟨a1_5, a1_6, a1_7, a1_8, a1_9, a1_10⟩ : S24) [.string a1_5, .int .i64 a1_6, .bool a1_7, .int .i64 a1_8, .int .i64 a1_9, .int .i64 a1_10] from (k24_mkM _ _ _ (⟨a1_5, a1_6, a1_7, a1_8, a1_9, a1_10⟩ : S24) )) (Reps.none _ _)))
          intro v254 w27 ho28 hb hg_ hnew_
          clear hg_ hnew_
          (first | rw [← Ny253.out] at ho28 | (simp only [Int.reduceToNat] at ho28; rw [← Ny253.out] at ho28))
          replace HO_0 := Aside0.mk (Kd.V_elder' (qV HO_0.out) (Kd.R_base ho28) hb)
          have HO255 := Aside0.mk (Kd.R_lower (Kd.R_newM (M := fun k_ => (w.heap.size ≤ k_)) ho28 (below_size (qB1 HB.out GE243.out)) (fun k_ h_ => h_)) (below_size (qB1 HB.out GE243.out)))
          replace BK243 := Aside0.mk (blk_below (qK BK243.out) hb)
          replace HB := Aside0.mk (below_step (qB1 HB.out GE243.out) hb)
          clear hb ho28
          refine hK.out _ _ ⟨(blk_cell BK243.out 0).trans rfl, (blk_cell BK243.out 1).trans rfl, (blk_cell BK243.out 2).trans rfl, (blk_cell BK243.out 3).trans rfl, (blk_cell BK243.out 4).trans rfl, (blk_cell BK243.out 5).trans rfl, (blk_cell BK243.out 6).trans rfl, (blk_cell BK243.out 7).trans rfl, (blk_cell BK243.out 8).trans rfl, (blk_cell BK243.out 9).trans rfl, (blk_cell BK243.out 10).trans rfl⟩ (fun hHeld => ?_)
          clear hK K
          refine qM (N := some 43) ?_
          refine qO (i := 0) (N := some 38) HT_.out (fun K hK => ?_)
          refine Kd.R_lit_step k24 _ 24 ?hg (N := 38) ?hd (xs := ([] : List (S24))) (inner := []) (ok := fun _ => True) (okp := fun _ => True) ?hr ?hp (fun _ hk => hk) trivial (Below.refl _ _) (Nat.le_refl _) (by simp) ?_; (case hd => rfl); (case hg => rfl); (case hr => first | (go_simp; done) | (go_simp; rfl)); (case hp => exact (Reps.none _ _))
          intro v248 w29 ho30 hb hg_ hnew_
          clear hg_ hnew_
          (first | rw [← Ny247.out] at ho30 | (simp only [Int.reduceToNat] at ho30; rw [← Ny247.out] at ho30))
          have n0_ := Aside0.mk (Kd.V_elder' (qV HO_0.out) (Kd.R_base ho30) hb)
          have n1_ := Aside0.mk (Kd.R_elder' (qR HO255.out) (Kd.R_base ho30) hb)
          have n2_ := Aside0.mk (Kd.R_lower (Kd.R_new' (Kd.R_newM (M := fun k_ => (w.heap.size ≤ k_)) ho30 (below_size (qB1 HB.out GE243.out)) (fun k_ h_ => h_)) (Kd.R_lt (qR HO255.out))) (below_size (qB1 HB.out GE243.out)))
          have n3_ := Aside0.mk (blk_below (qK BK243.out) hb)
          have n4_ := Aside0.mk (below_step (qB1 HB.out GE243.out) hb)
          clear HO_0 HO255 BK243 HB
          have HO_0 := n0_
          have HO255 := n1_
          have HO249 := n2_
          have BK243 := n3_
          have HB := n4_
          clear n0_ n1_ n2_ n3_ n4_ hb ho30
          refine hK.out _ _ ⟨(blk_cell BK243.out 0).trans rfl, (blk_cell BK243.out 1).trans rfl, (blk_cell BK243.out 2).trans rfl, (blk_cell BK243.out 3).trans rfl, (blk_cell BK243.out 4).trans rfl, (blk_cell BK243.out 5).trans rfl, (blk_cell BK243.out 6).trans rfl, (blk_cell BK243.out 7).trans rfl, (blk_cell BK243.out 8).trans rfl, (blk_cell BK243.out 9).trans rfl, (blk_cell BK243.out 10).trans rfl⟩ (fun hHeld => ?_)
          clear hK K
          refine qM (N := some 38) ?_
          refine qO (i := 2) (N := some 40) HT_.out (fun K hK => ?_)
          refine Kd.R_append_rows_step k24 (w0 := w) w.heap.size (by rfl) (.tmp 38) (.tmp 39) 37 24 (.agg #[(.string ⟨#[]⟩), (.int .i64 0), (.bool false), (.int .i64 0), (.int .i64 0), (.int .i64 0)]) 56 rfl Tryz.underlying37 info24 rfl (by decide) (by omega) v248 y247 l0 _ _ _ (fun k_ => (w.heap.size ≤ k_) ∧ some k_ ≠ (v254 : Value).ownBlock) (fun _ => False) rfl rfl ?aO ?aR (fun _ _ h => h) (fun _ h => h.elim) ?aF ?aB ?aS ?aL ?_
          (case aR => repeat (first | exact (Kd.V_reads' HO_0.out).2.2 | (with_reducible refine Kd.C_alloc ?_ _) | (with_reducible refine Kd.C_drewN ?_ _) | (with_reducible refine Kd.C_drew ?_)))
          (case aB => exact (qB1 HB.out GE243.out))
          (case aF => exact (fun k_ hk => ⟨(Nat.le_trans (below_size (qB1 HB.out GE243.out)) hk), Kd.fresh' (Kd.R_lt (qR HO255.out)) k_ hk⟩))
          (case aO => exact (qR (Kd.R_mono HO249.out (fun _ hk => ⟨hk.1.1, hk.2⟩))))
          (case aS => exact (below_size (qB1 HB.out GE243.out)))
          (case aL => have := LMc23.out; omega)
          intro v251 w31 ho hb hg hat
          rw [← Ny250.out] at ho
          replace HO_0 := Aside0.mk (Kd.V_afterv (ok := (fun k_ => (P0_ k_ ∨ w.heap.size ≤ k_) ∧ some k_ ≠ (v254 : Value).ownBlock ∧ k_ ≠ gb243)) (qV (Kd.V_mono HO_0.out (fun _ hk => ⟨⟨hk.1.1.1, ⟨hk.1.2, hk.1.1.2⟩⟩, hk.2⟩))) hg hat)
          replace BK243 := Aside0.mk (blk_grown (qK BK243.out) hg (Kd.R_ne HO249.out BK243.out (by decide)))
          replace HO255 := Aside0.mk (Kd.R_after (ok := (fun k_ => (w.heap.size ≤ k_))) (qR (Kd.R_mono HO255.out (fun _ hk => ⟨hk.1.1, hk.2⟩))) hg hat)
          replace HB := Aside0.mk (hb)
          have HO252 := Aside0.mk (ho)
          clear HO249 ho hb hg hat
          refine hK.out _ _ ⟨(blk_cell BK243.out 0).trans rfl, (blk_cell BK243.out 1).trans rfl, (blk_cell BK243.out 2).trans rfl, (blk_cell BK243.out 3).trans rfl, (blk_cell BK243.out 4).trans rfl, (blk_cell BK243.out 5).trans rfl, (blk_cell BK243.out 6).trans rfl, (blk_cell BK243.out 7).trans rfl, (blk_cell BK243.out 8).trans rfl, (blk_cell BK243.out 9).trans rfl, (blk_cell BK243.out 10).trans rfl⟩ (fun hHeld => ?_)
          clear hK K
          refine qM (N := some 40) ?_
          exact norm_ (by simp only [putAll, Act.put, List.setIfInBounds_toArray, List.set_cons_zero, List.set_cons_succ]) (hCont (v248, v251, v254) _ ⟨hHeld, (qR HO252.out), (qR HO255.out), (qV (Kd.V_mono HO_0.out (fun _ hk => ⟨hk.1.1, ⟨hk.2, ⟨hk.1.2.1, hk.1.2.2⟩⟩⟩))), (qK BK243.out), (qB1 HB.out GE243.out)⟩)
        rintro ⟨v248, v251, v254⟩ w32 ⟨hS_, h0_, h1_, h2_, h3_, h4_⟩
        have HO252 : Aside0 (Kd.R k24 24 w32 w.heap.size (fun k_ => (w.heap.size ≤ k_) ∧ some k_ ≠ (v254 : Value).ownBlock) v251 y250) := ⟨h0_⟩
        have HO255 : Aside0 (Kd.R k24 24 w32 w.heap.size (fun k_ => (w.heap.size ≤ k_) ∧ some k_ ≠ (v251 : Value).ownBlock) v254 y253) := ⟨h1_⟩
        replace HO_0 : Aside0 (Kd.V k24 24 w32 w.heap.size (fun k_ => (P0_ k_ ∨ w.heap.size ≤ k_) ∧ some k_ ≠ (v251 : Value).ownBlock ∧ some k_ ≠ (v254 : Value).ownBlock ∧ k_ ≠ gb243) (.slice A0 l0.length c0) l0) := ⟨h2_⟩
        replace BK243 : Aside0 (w32.heap[gb243]? = some (.cells #[.int .i64 a1_0, .int .i64 a1_1, .string a1_2, .string a1_3, .bool a1_4, .string a1_5, .int .i64 a1_6, .bool a1_7, .int .i64 a1_8, .int .i64 a1_9, .int .i64 a1_10] 26 (0, 0))) := ⟨h3_⟩
        replace HB : Aside0 (Below w.heap.size w w32) := ⟨h4_⟩
        clear h0_ h1_ h2_ h3_ h4_
        have hHeld : w32.cell? ⟨gb243, 0, none⟩ = some (.int .i64 a1_0) ∧ w32.cell? ⟨gb243, 1, none⟩ = some (.int .i64 a1_1) ∧ w32.cell? ⟨gb243, 2, none⟩ = some (.string a1_2) ∧ w32.cell? ⟨gb243, 3, none⟩ = some (.string a1_3) ∧ w32.cell? ⟨gb243, 4, none⟩ = some (.bool a1_4) ∧ w32.cell? ⟨gb243, 5, none⟩ = some (.string a1_5) ∧ w32.cell? ⟨gb243, 6, none⟩ = some (.int .i64 a1_6) ∧ w32.cell? ⟨gb243, 7, none⟩ = some (.bool a1_7) ∧ w32.cell? ⟨gb243, 8, none⟩ = some (.int .i64 a1_8) ∧ w32.cell? ⟨gb243, 9, none⟩ = some (.int .i64 a1_9) ∧ w32.cell? ⟨gb243, 10, none⟩ = some (.int .i64 a1_10) := hS_
        obtain ⟨Ao34, co34, eo34⟩ := Kd.R_slice HO255.out
        (first | subst eo34 | (injection eo34 with f1_ f2_ f3_; have f4_ := f1_.symm; have f5_ := f3_.symm; clear f1_ f2_ f3_; subst f4_; subst f5_))
        refine norm_ (a' := ?_) ?_ ?_
        rotate_left
        ·simp only [putAll, Act.put, List.setIfInBounds_toArray, List.set_cons_zero, List.set_cons_succ]
         rfl
        refine qO (i := 6) (N := some 44) HT_.out (fun K hK => ?_)
        refine Kd.R_append_rows_step k24 (w0 := w) w.heap.size (by rfl) (.tmp 40) (.tmp 43) 37 24 (.agg #[(.string ⟨#[]⟩), (.int .i64 0), (.bool false), (.int .i64 0), (.int .i64 0), (.int .i64 0)]) 56 rfl Tryz.underlying37 info24 rfl (by decide) (by omega) v251 y250 y253 _ _ _ (fun k_ => (w.heap.size ≤ k_) ∧ some k_ ≠ (.slice Ao34 y253.length co34 : Value).ownBlock) (fun _ => False) rfl rfl ?aO ?aR (fun _ _ h => h) (fun _ h => h.elim) ?aF ?aB ?aS ?aL ?_
        (case aR => repeat (first | exact (Kd.R_reads' HO255.out).2.2 | (with_reducible refine Kd.C_alloc ?_ _) | (with_reducible refine Kd.C_drewN ?_ _) | (with_reducible refine Kd.C_drew ?_)))
        (case aB => exact (qB1 HB.out GE243.out))
        (case aF => exact (fun k_ hk => ⟨(Nat.le_trans (below_size (qB1 HB.out GE243.out)) hk), Kd.fresh' (Kd.R_lt (qR HO255.out)) k_ hk⟩))
        (case aO => exact (qR HO252.out))
        (case aS => exact (below_size (qB1 HB.out GE243.out)))
        (case aL => have := LMc24.out; omega)
        intro v257 w33 ho hb hg hat
        rw [← Ny256.out] at ho
        replace HO_0 := Aside0.mk (Kd.V_afterv (ok := (fun k_ => (P0_ k_ ∨ w.heap.size ≤ k_) ∧ some k_ ≠ (.slice Ao34 y253.length co34 : Value).ownBlock ∧ k_ ≠ gb243)) (qV (Kd.V_mono HO_0.out (fun _ hk => ⟨⟨hk.1, ⟨hk.2.2.1, hk.2.2.2⟩⟩, hk.2.1⟩))) hg hat)
        replace BK243 := Aside0.mk (blk_grown (qK BK243.out) hg (Kd.R_ne HO252.out BK243.out (by decide)))
        replace HO255 := Aside0.mk (Kd.R_after (ok := (fun k_ => (w.heap.size ≤ k_))) (qR HO255.out) hg hat)
        replace HB := Aside0.mk (hb)
        have HO258 := Aside0.mk (ho)
        clear HO252 ho hb hg hat
        refine hK.out _ _ ⟨(blk_cell BK243.out 0).trans rfl, (blk_cell BK243.out 1).trans rfl, (blk_cell BK243.out 2).trans rfl, (blk_cell BK243.out 3).trans rfl, (blk_cell BK243.out 4).trans rfl, (blk_cell BK243.out 5).trans rfl, (blk_cell BK243.out 6).trans rfl, (blk_cell BK243.out 7).trans rfl, (blk_cell BK243.out 8).trans rfl, (blk_cell BK243.out 9).trans rfl, (blk_cell BK243.out 10).trans rfl⟩ (fun hHeld => ?_)
        clear hK K
        refine qM (N := some 44) ?_
        refine qP (i := 7) (N := some 4) HT_.out ?_
        refine qP (i := 8) (N := some 5) HT_.out ?_
        refine done_ (done_of HT_.out qr) ?_
        try go_wp2
        go_ret2
        exact ⟨_, qE, Kd.V_mono (Kd.R_V (qR (Kd.R_mono HO258.out (fun _ hk => hk.1)))) (fun k_ hk => by first | exact ⟨(.inr (hk.1)), hk.2⟩ | exact (.inr (hk))), by repeat (first | (with_reducible first | exact HB.out | apply below_alloc | apply pw_below_drewN | apply below_drew1 | refine below_set ?_ GE243.out) | exact HB.out)⟩
       ·rw [if_neg c24] at H
        exact absurd H (by simp)
      ·rw [if_neg c23] at H
       exact absurd H (by simp)
   ·rw [if_neg c18] at H
    have c18b0 : (a1_0 == 3) = false := beq_eq_false_iff_ne.mpr c18
    have c18b1 : (a1_0 != 3) = true := bne_iff_ne.mpr c18
    by_cases c35 : t246 < 0
    ·rw [if_pos c35] at H
     have c35b0 : decide (t246 < 0) = true := decide_eq_true c35
     clear c35
     simp only [Option.some.injEq, Prod.mk.injEq] at H
     obtain ⟨rfl, rfl⟩ := H
     go_wp2_with (first | ((with_reducible refine gate_callee (f := 57) rfl ?_); refine goesL_ (some 27) rfl rfl Tryz.func57 qr rfl #[.slice A0 l0.length c0, .string x6_2] rfl qG ?_; (with_reducible refine (chicaneref14_find.calls kj2 _ _ l0 x6_2 t246 _ ?side1 ?side2 A17.out).mono ?_); (case side1 => repeat (first | exact (Kd.V_reads' HO_0.out).2.2 | (with_reducible refine Kd.C_alloc ?_ _) | (with_reducible refine Kd.C_drewN ?_ _) | (with_reducible refine Kd.C_drew ?_))); (case side2 => exact (Kd.V_reads' HO_0.out).2.1); rintro e w' ⟨rfl, ⟨nd, rfl⟩⟩; refine ⟨_, rfl, ?_⟩; have hcz36 := qC11 BK243.out))
     go_ret2
     exact ⟨_, qE, by (with_reducible repeat (first | apply Kd.V_alloc | apply Kd.V_drewN | apply Kd.V_drew)); exact Kd.V_mono HO_0.out (fun _ hk => hk.1), by repeat (first | (with_reducible first | exact HB.out | apply below_alloc | apply pw_below_drewN | apply below_drew1 | refine below_set ?_ GE243.out) | exact HB.out)⟩
    ·rw [if_neg c35] at H
     have c35b0 : decide (t246 < 0) = false := decide_eq_false c35
     clear c35
     by_cases c37 : a1_0 = 4
     ·rw [if_pos c37] at H
      have c37b0 : (a1_0 == 4) = true := beq_iff_eq.mpr c37
      have c37b1 : (a1_0 != 4) = false := bne_eq_false_iff_eq.mpr c37
      clear c37
      obtain ⟨y259, hy259⟩ : ∃ y_ : List (S24), y_ = (([] : List (S24))) := ⟨_, rfl⟩
      replace H : (if 0 ≤ t246 then (if t246 ≤ (l0.length : Int) then ((some (l0.take (t246 : Int).toNat : List (S24))).bind fun y262 => (if y259.length + y262.length < 2513169434916 then ((some (y259 ++ y262 : List (S24))).bind fun y267 => (if 0 ≤ (wrap64 (t246 + 1)) then (if (wrap64 (t246 + 1)) ≤ (l0.length : Int) then ((some (l0.drop ((wrap64 (t246 + 1)) : Int).toNat : List (S24))).bind fun y270 => (if y267.length + y270.length < 2513169434916 then (some ((y267 ++ y270), 0)) else (none))) else (none)) else (none))) else (none))) else (none)) else (none)) = some (r1, r2) := by first | (rw [hy259]; with_reducible exact H) | (have H2_ := (Option.bind_some _ _).symm.trans H; rw [hy259]; with_reducible exact H2_) | (have H2_ := (Option.bind_some _ _).symm.trans H; with_reducible exact H2_) | with_reducible exact H | (rw [hy259]; exact H) | exact H
      have Ny259 := Aside0.mk hy259
      clear hy259
      by_cases c38 : 0 ≤ t246
      ·rw [if_pos c38] at H
       have c38b0 := eq_true c38
       have c38b1 : decide (0 ≤ t246) = true := decide_eq_true c38
       clear c38
       by_cases c39 : t246 ≤ (l0.length : Int)
       ·rw [if_pos c39] at H
        have c39b0 := eq_true c39
        have c39b1 : decide (t246 ≤ (l0.length : Int)) = true := decide_eq_true c39
        clear c39
        obtain ⟨y262, hy262⟩ : ∃ y_ : List (S24), y_ = (l0.take (t246 : Int).toNat) := ⟨_, rfl⟩
        replace H : (if y259.length + y262.length < 2513169434916 then ((some (y259 ++ y262 : List (S24))).bind fun y267 => (if 0 ≤ (wrap64 (t246 + 1)) then (if (wrap64 (t246 + 1)) ≤ (l0.length : Int) then ((some (l0.drop ((wrap64 (t246 + 1)) : Int).toNat : List (S24))).bind fun y270 => (if y267.length + y270.length < 2513169434916 then (some ((y267 ++ y270), 0)) else (none))) else (none)) else (none))) else (none)) = some (r1, r2) := by first | (rw [hy262]; with_reducible exact H) | (have H2_ := (Option.bind_some _ _).symm.trans H; rw [hy262]; with_reducible exact H2_) | (have H2_ := (Option.bind_some _ _).symm.trans H; with_reducible exact H2_) | with_reducible exact H | (rw [hy262]; exact H) | exact H
        have Ny262 := Aside0.mk hy262
        clear hy262
        by_cases c40 : y259.length + y262.length < 2513169434916
        ·rw [if_pos c40] at H
         have LMc40 := Aside0.mk c40
         clear c40
         obtain ⟨y267, hy267⟩ : ∃ y_ : List (S24), y_ = (y259 ++ y262) := ⟨_, rfl⟩
         replace H : (if 0 ≤ (wrap64 (t246 + 1)) then (if (wrap64 (t246 + 1)) ≤ (l0.length : Int) then ((some (l0.drop ((wrap64 (t246 + 1)) : Int).toNat : List (S24))).bind fun y270 => (if y267.length + y270.length < 2513169434916 then (some ((y267 ++ y270), 0)) else (none))) else (none)) else (none)) = some (r1, r2) := by first | (rw [hy267]; with_reducible exact H) | (have H2_ := (Option.bind_some _ _).symm.trans H; rw [hy267]; with_reducible exact H2_) | (have H2_ := (Option.bind_some _ _).symm.trans H; with_reducible exact H2_) | with_reducible exact H | (rw [hy267]; exact H) | exact H
         have Ny267 := Aside0.mk hy267
         clear hy267
         obtain ⟨ji41, hji41⟩ : ∃ j_ : Int, (wrap64 (t246 + 1)) = j_ := ⟨_, rfl⟩
         replace H : (if 0 ≤ (ji41) then (if (ji41) ≤ (l0.length : Int) then ((some (l0.drop ((ji41) : Int).toNat : List (S24))).bind fun y270 => (if y267.length + y270.length < 2513169434916 then (some ((y267 ++ y270), 0)) else (none))) else (none)) else (none)) = some (r1, r2) := by first | (rw [hji41] at H; exact H) | (simp only [hji41] at H ⊢; exact H)
         (try rw [hji41] at A17)
         have hji41w : (IntKind.i64.wrap (t246 + 1)) = ji41 := (i64_w _).trans hji41
         by_cases c42 : 0 ≤ (ji41)
         ·rw [if_pos c42] at H
          have c42b0 := eq_true c42
          have c42b1 : decide (0 ≤ (ji41)) = true := decide_eq_true c42
          clear c42
          by_cases c43 : (ji41) ≤ (l0.length : Int)
          ·rw [if_pos c43] at H
           have c43b0 := eq_true c43
           have c43b1 : decide ((ji41) ≤ (l0.length : Int)) = true := decide_eq_true c43
           clear c43
           obtain ⟨y270, hy270⟩ : ∃ y_ : List (S24), y_ = (l0.drop ((ji41) : Int).toNat) := ⟨_, rfl⟩
           replace H : (if y267.length + y270.length < 2513169434916 then (some ((y267 ++ y270), 0)) else (none)) = some (r1, r2) := by first | (rw [hy270]; with_reducible exact H) | (have H2_ := (Option.bind_some _ _).symm.trans H; rw [hy270]; with_reducible exact H2_) | (have H2_ := (Option.bind_some _ _).symm.trans H; with_reducible exact H2_) | with_reducible exact H | (rw [hy270]; exact H) | exact H
           have Ny270 := Aside0.mk hy270
           clear hy270
           by_cases c44 : y267.length + y270.length < 2513169434916
           ·rw [if_pos c44] at H
            have LMc44 := Aside0.mk c44
            clear c44
            obtain ⟨y275, hy275⟩ : ∃ y_ : List (S24), y_ = (y267 ++ y270) := ⟨_, rfl⟩
            replace H : (some (y275, 0)) = some (r1, r2) := by first | (rw [hy275]; with_reducible exact H) | (have H2_ := (Option.bind_some _ _).symm.trans H; rw [hy275]; with_reducible exact H2_) | (have H2_ := (Option.bind_some _ _).symm.trans H; with_reducible exact H2_) | with_reducible exact H | (rw [hy275]; exact H) | exact H
            have Ny275 := Aside0.mk hy275
            clear hy275
            simp only [Option.some.injEq, Prod.mk.injEq] at H
            obtain ⟨rfl, rfl⟩ := H
            try go_wp2_with (first | ((with_reducible refine gate_callee (f := 57) rfl ?_); refine goesL_ (some 27) rfl rfl Tryz.func57 qr rfl #[.slice A0 l0.length c0, .string x6_2] rfl qG ?_; (with_reducible refine (chicaneref14_find.calls kj2 _ _ l0 x6_2 t246 _ ?side1 ?side2 A17.out).mono ?_); (case side1 => repeat (first | exact (Kd.V_reads' HO_0.out).2.2 | (with_reducible refine Kd.C_alloc ?_ _) | (with_reducible refine Kd.C_drewN ?_ _) | (with_reducible refine Kd.C_drew ?_))); (case side2 => exact (Kd.V_reads' HO_0.out).2.1); rintro e w' ⟨rfl, ⟨nd, rfl⟩⟩; refine ⟨_, rfl, ?_⟩; have hcz45 := qC11 BK243.out))
            (try (rw [drewN_self wc]; generalize hq_ : World.drewN wc _ = wc; replace HO_0 : Aside0 (Kd.V k24 24 wc w.heap.size (fun k_ => (P0_ k_ ∨ w.heap.size ≤ k_) ∧ k_ ≠ gb243) (.slice A0 l0.length c0) l0) := ⟨by rw [← hq_]; exact (qV HO_0.out)⟩; replace BK243 : Aside0 (wc.heap[gb243]? = some (.cells #[.int .i64 a1_0, .int .i64 a1_1, .string a1_2, .string a1_3, .bool a1_4, .string a1_5, .int .i64 a1_6, .bool a1_7, .int .i64 a1_8, .int .i64 a1_9, .int .i64 a1_10] 26 (0, 0))) := ⟨by rw [← hq_]; exact (qK BK243.out)⟩; replace HB : Aside0 (Below w.heap.size w wc) := ⟨by rw [← hq_]; exact (qB1 HB.out GE243.out)⟩; clear hq_))
            replace HO_0 := Aside0.mk (Kd.V_drew HO_0.out)
            replace BK243 := Aside0.mk (blk_drew BK243.out)
            replace HB := Aside0.mk (below_drew1 HB.out)
            have q47 : (t246 : Int) ≤ ((l0.length : Int) : Int) := of_decide_eq_true qA
            obtain ⟨i047, hi047, _, hsz47, _⟩ := info_parts info24
            have hroom47 : l0.length ≤ c0 := (Kd.V_reads' HO_0.out).2.1
            have hC47 : Kd.F k24 _ _ A0 l0.length l0 := (Kd.V_at (base := w.heap.size) HO_0.out).2.2
            have hcut47 := cut_to (P := Tryz.prog) 37 24 .i64 Tryz.underlying37 hi047 A0 l0.length c0 t246 (of_decide_eq_true qA) q47 hroom47
            have hr47 := Kd.F_take (m := (t246 : Int).toNat) hC47 (by omega)
            have hy47 : y262.length = (t246 : Int).toNat := (by rw [Ny262.out, List.length_take]; omega)
            rw [← Ny262.out] at hr47
            rw [← hy47] at hcut47
            have HO266 := Aside0.mk (show Kd.V k24 24 _ w.heap.size _ (.slice A0 y262.length c0) y262 from Kd.V_mk (by omega) hr47)
            have HC266 := Aside0.mk (show y262.length ≤ c0 from by omega)
            clear hr47 hC47 hroom47 hi047 hsz47
            have KY47 := Aside0.mk hy47
            clear hy47
            replace q47 := eq_true q47
            have q48 : ((ji41) : Int) ≤ ((l0.length : Int) : Int) := of_decide_eq_true qA
            obtain ⟨i048, hi048, _, hsz48, _⟩ := info_parts info24
            have hroom48 : l0.length ≤ c0 := (Kd.V_reads' HO_0.out).2.1
            have hC48 : Kd.F k24 _ _ A0 l0.length l0 := (Kd.V_at (base := w.heap.size) HO_0.out).2.2
            have q048 : (0 : Int) ≤ ((ji41) : Int) := of_decide_eq_true qA
            have hcut48 := cut_from (P := Tryz.prog) 37 24 .i64 Tryz.underlying37 hi048 6 hsz48 A0 l0.length c0 (ji41) q048 q48
            have hr48 := Kd.F_cut (m := ((ji41) : Int).toNat) (c := c0) hC48 (by omega) hroom48
            obtain ⟨A48, hA48⟩ : ∃ A1, A1 = (if c0 = ((ji41) : Int).toNat then A0 else (A0 : Option Addr).map (·.add (((ji41) : Int).toNat * 6))) := ⟨_, rfl⟩
            obtain ⟨c48, hc48⟩ : ∃ c1, c1 = c0 - ((ji41) : Int).toNat := ⟨_, rfl⟩
            have hy48 : y270.length = l0.length - ((ji41) : Int).toNat := (by rw [Ny270.out, List.length_drop] <;> omega)
            rw [show (l0).drop ((ji41) : Int).toNat = y270 from Ny270.out.symm] at hr48
            replace hr48 : Kd.F k24 _ _ A48 y270.length y270 := (by rw [hA48]; exact hr48)
            rw [← hy48, ← hA48, ← hc48] at hcut48
            have HO274 := Aside0.mk (show Kd.V k24 24 _ w.heap.size _ (.slice A48 y270.length c48) y270 from Kd.V_mk (by rw [hy48, hc48]; exact Nat.sub_le_sub_right hroom48 _) hr48)
            have HC274 := Aside0.mk (show y270.length ≤ c48 from by rw [hy48, hc48]; exact Nat.sub_le_sub_right hroom48 _)
            clear hr48 hC48 hroom48 hi048 hsz48 hc48
            have KY48 := Aside0.mk hy48
            have KA48 := Aside0.mk hA48
            clear hy48 hA48
            replace q48 := eq_true q48
            refine start_ (n := 12) (S := fun w' => True) (ds := []) #[false, false, false, false, false, false, false, false, false, false, false, false] qr rfl rfl trivial (fun hHeld => ?_); refine with_tabW chicaneref14_toxics.tab16 chicaneref14_toxics.bits16 (fun HT_ HW_ => ?_)
            generalize wc.drew = w46 at HO_0 BK243 HB HO266 HO274 hHeld ⊢
            refine qP (i := 1) (N := some 52) HT_.out ?_
            refine qP (i := 2) (N := some 53) HT_.out ?_
            refine qP (i := 3) (N := some 54) HT_.out ?_
            refine qP (i := 5) (N := some 56) HT_.out ?_
            refine qP (i := 6) (N := some 57) HT_.out ?_
            refine qP (i := 7) (N := some 58) HT_.out ?_
            refine qP (i := 8) (N := some 59) HT_.out ?_
            refine qO (i := 0) (N := some 51) HT_.out (fun K hK => ?_)
            refine Kd.R_lit_step k24 _ 24 ?hg (N := 51) ?hd (xs := ([] : List (S24))) (inner := []) (ok := fun _ => True) (okp := fun _ => True) ?hr ?hp (fun _ hk => hk) trivial (Below.refl _ _) (Nat.le_refl _) (by simp) ?_; (case hd => rfl); (case hg => rfl); (case hr => first | (go_simp; done) | (go_simp; rfl)); (case hp => exact (Reps.none _ _))
            intro v260 w49 ho50 hb hg_ hnew_
            clear hg_ hnew_
            (first | rw [← Ny259.out] at ho50 | (simp only [Int.reduceToNat] at ho50; rw [← Ny259.out] at ho50))
            replace HO_0 := Aside0.mk (Kd.V_elder' (qV HO_0.out) (Kd.R_base ho50) hb)
            replace HO266 := Aside0.mk (Kd.V_elder' (qV HO266.out) (Kd.R_base ho50) hb)
            replace HO274 := Aside0.mk (Kd.V_elder' (qV HO274.out) (Kd.R_base ho50) hb)
            have HO261 := Aside0.mk (Kd.R_lower (Kd.R_newM (M := fun k_ => (w.heap.size ≤ k_)) ho50 (below_size (qB1 HB.out GE243.out)) (fun k_ h_ => h_)) (below_size (qB1 HB.out GE243.out)))
            replace BK243 := Aside0.mk (blk_below (qK BK243.out) hb)
            replace HB := Aside0.mk (below_step (qB1 HB.out GE243.out) hb)
            clear hb ho50
            refine hK.out _ _ trivial (fun hHeld => ?_)
            clear hK K
            refine qM (N := some 51) ?_
            refine qO (i := 4) (N := some 55) HT_.out (fun K hK => ?_)
            refine Kd.R_append_rows_step k24 (w0 := w) w.heap.size (by rfl) (.tmp 51) (.tmp 54) 37 24 (.agg #[(.string ⟨#[]⟩), (.int .i64 0), (.bool false), (.int .i64 0), (.int .i64 0), (.int .i64 0)]) 56 rfl Tryz.underlying37 info24 rfl (by decide) (by omega) v260 y259 y262 _ _ _ (fun k_ => (w.heap.size ≤ k_)) (fun _ => False) rfl rfl ?aO ?aR (fun _ _ h => h) (fun _ h => h.elim) ?aF ?aB ?aS ?aL ?_
            (case aR => repeat (first | exact (Kd.V_reads' HO266.out).2.2 | (with_reducible refine Kd.C_alloc ?_ _) | (with_reducible refine Kd.C_drewN ?_ _) | (with_reducible refine Kd.C_drew ?_)))
            (case aB => exact (qB1 HB.out GE243.out))
            (case aF => exact (fun k_ hk => (Nat.le_trans (below_size (qB1 HB.out GE243.out)) hk)))
            (case aO => exact (qR (Kd.R_mono HO261.out (fun _ hk => hk.1))))
            (case aS => exact (below_size (qB1 HB.out GE243.out)))
            (case aL => have := LMc40.out; omega)
            intro v268 w51 ho hb hg hat
            rw [← Ny267.out] at ho
            replace HO_0 := Aside0.mk (Kd.V_afterv (ok := (fun k_ => (P0_ k_ ∨ w.heap.size ≤ k_) ∧ k_ ≠ gb243)) (qV HO_0.out) hg hat)
            replace BK243 := Aside0.mk (blk_grown (qK BK243.out) hg (Kd.R_ne HO261.out BK243.out (by decide)))
            replace HO266 := Aside0.mk (Kd.V_afterv (ok := (fun k_ => (P0_ k_ ∨ w.heap.size ≤ k_) ∧ k_ ≠ gb243)) (qV HO266.out) hg hat)
            replace HO274 := Aside0.mk (Kd.V_afterv (ok := (fun k_ => (P0_ k_ ∨ w.heap.size ≤ k_) ∧ k_ ≠ gb243)) (qV HO274.out) hg hat)
            replace HB := Aside0.mk (hb)
            have HO269 := Aside0.mk (ho)
            clear HO261 ho hb hg hat
            refine hK.out _ _ trivial (fun hHeld => ?_)
            clear hK K
            refine qM (N := some 55) ?_
            refine qO (i := 9) (N := some 60) HT_.out (fun K hK => ?_)
            refine Kd.R_append_rows_step k24 (w0 := w) w.heap.size (by rfl) (.tmp 55) (.tmp 59) 37 24 (.agg #[(.string ⟨#[]⟩), (.int .i64 0), (.bool false), (.int .i64 0), (.int .i64 0), (.int .i64 0)]) 56 rfl Tryz.underlying37 info24 rfl (by decide) (by omega) v268 y267 y270 _ _ _ (fun k_ => (w.heap.size ≤ k_)) (fun _ => False) rfl rfl ?aO ?aR (fun _ _ h => h) (fun _ h => h.elim) ?aF ?aB ?aS ?aL ?_
            (case aR => repeat (first | exact (Kd.V_reads' HO274.out).2.2 | (with_reducible refine Kd.C_alloc ?_ _) | (with_reducible refine Kd.C_drewN ?_ _) | (with_reducible refine Kd.C_drew ?_)))
            (case aB => exact (qB1 HB.out GE243.out))
            (case aF => exact (fun k_ hk => (Nat.le_trans (below_size (qB1 HB.out GE243.out)) hk)))
            (case aO => exact (qR HO269.out))
            (case aS => exact (below_size (qB1 HB.out GE243.out)))
            (case aL => have := LMc44.out; omega)
            intro v276 w52 ho hb hg hat
            rw [← Ny275.out] at ho
            replace HO_0 := Aside0.mk (Kd.V_afterv (ok := (fun k_ => (P0_ k_ ∨ w.heap.size ≤ k_) ∧ k_ ≠ gb243)) (qV HO_0.out) hg hat)
            replace BK243 := Aside0.mk (blk_grown (qK BK243.out) hg (Kd.R_ne HO269.out BK243.out (by decide)))
            replace HO266 := Aside0.mk (Kd.V_afterv (ok := (fun k_ => (P0_ k_ ∨ w.heap.size ≤ k_) ∧ k_ ≠ gb243)) (qV HO266.out) hg hat)
            replace HO274 := Aside0.mk (Kd.V_afterv (ok := (fun k_ => (P0_ k_ ∨ w.heap.size ≤ k_) ∧ k_ ≠ gb243)) (qV HO274.out) hg hat)
            replace HB := Aside0.mk (hb)
            have HO277 := Aside0.mk (ho)
            clear HO269 ho hb hg hat
            refine hK.out _ _ trivial (fun hHeld => ?_)
            clear hK K
            refine qM (N := some 60) ?_
            refine qP (i := 10) (N := some 4) HT_.out ?_
            refine qP (i := 11) (N := some 5) HT_.out ?_
            refine done_ (done_of HT_.out qr) ?_
            try go_wp2
            go_ret2
            exact ⟨_, by first | rfl | (simp [errW_none, errW_some] <;> rfl) | (simp only [← hji41]; first | rfl | (simp [errW_none, errW_some] <;> rfl)) | (simp [*, errW_none, errW_some] <;> rfl), Kd.V_mono (Kd.R_V (qR HO277.out)) (fun k_ hk => by first | exact ⟨(.inr (hk.1)), hk.2⟩ | exact (.inr (hk))), by repeat (first | (with_reducible first | exact HB.out | apply below_alloc | apply pw_below_drewN | apply below_drew1 | refine below_set ?_ GE243.out) | exact HB.out)⟩
           ·rw [if_neg c44] at H
            exact absurd H (by simp)
          ·rw [if_neg c43] at H
           exact absurd H (by simp)
         ·rw [if_neg c42] at H
          exact absurd H (by simp)
        ·rw [if_neg c40] at H
         exact absurd H (by simp)
       ·rw [if_neg c39] at H
        exact absurd H (by simp)
      ·rw [if_neg c38] at H
       exact absurd H (by simp)
     ·rw [if_neg c37] at H
      have c37b0 : (a1_0 == 4) = false := beq_eq_false_iff_ne.mpr c37
      have c37b1 : (a1_0 != 4) = true := bne_iff_ne.mpr c37
      by_cases c53 : 0 ≤ t246
      ·rw [if_pos c53] at H
       have c53b0 : decide (0 ≤ t246) = true := decide_eq_true c53
       clear c53
       by_cases c54 : t246 < (l0.length : Int)
       ·rw [if_pos c54] at H
        have c54b0 : decide (t246 < (l0.length : Int)) = true := decide_eq_true c54
        clear c54
        by_cases c55 : ((rd_T24 l0 t246).f1) = a1_6
        ·rw [if_pos c55] at H
         have c55b0 : (((rd_T24 l0 t246).f1) == a1_6) = true := beq_iff_eq.mpr c55
         have c55b1 : (((rd_T24 l0 t246).f1) != a1_6) = false := bne_eq_false_iff_eq.mpr c55
         clear c55
         by_cases c56 : (((rd_T24 l0 t246).f2) != a1_7) = true
         ·rw [if_pos c56] at H
          have c56b0 : (((rd_T24 l0 t246).f2) != a1_7) = true := c56
          (try (have c56b1 : decide (((rd_T24 l0 t246).f2) = a1_7) = false := by simpa using c56))
          (try (have c56b2 : (((rd_T24 l0 t246).f2) == a1_7) = false := by simpa using c56))
          (try (have c56b3 : ¬ (((rd_T24 l0 t246).f2) = a1_7) := by simpa using c56))
          clear c56
          simp only [Option.some.injEq, Prod.mk.injEq] at H
          obtain ⟨rfl, rfl⟩ := H
          try go_wp2_with (first | ((with_reducible refine gate_callee (f := 57) rfl ?_); refine goesL_ (some 27) rfl rfl Tryz.func57 qr rfl #[.slice A0 l0.length c0, .string x6_2] rfl qG ?_; (with_reducible refine (chicaneref14_find.calls kj2 _ _ l0 x6_2 t246 _ ?side1 ?side2 A17.out).mono ?_); (case side1 => repeat (first | exact (Kd.V_reads' HO_0.out).2.2 | (with_reducible refine Kd.C_alloc ?_ _) | (with_reducible refine Kd.C_drewN ?_ _) | (with_reducible refine Kd.C_drew ?_))); (case side2 => exact (Kd.V_reads' HO_0.out).2.1); rintro e w' ⟨rfl, ⟨nd, rfl⟩⟩; refine ⟨_, rfl, ?_⟩; have hcz57 := qC11 BK243.out))
          (try (rw [drewN_self wc]; generalize hq_ : World.drewN wc _ = wc; replace HO_0 : Aside0 (Kd.V k24 24 wc w.heap.size (fun k_ => (P0_ k_ ∨ w.heap.size ≤ k_) ∧ k_ ≠ gb243) (.slice A0 l0.length c0) l0) := ⟨by rw [← hq_]; exact (qV HO_0.out)⟩; replace BK243 : Aside0 (wc.heap[gb243]? = some (.cells #[.int .i64 a1_0, .int .i64 a1_1, .string a1_2, .string a1_3, .bool a1_4, .string a1_5, .int .i64 a1_6, .bool a1_7, .int .i64 a1_8, .int .i64 a1_9, .int .i64 a1_10] 26 (0, 0))) := ⟨by rw [← hq_]; exact (qK BK243.out)⟩; replace HB : Aside0 (Below w.heap.size w wc) := ⟨by rw [← hq_]; exact (qB1 HB.out GE243.out)⟩; clear hq_))
          replace HO_0 := Aside0.mk (Kd.V_drew HO_0.out)
          replace BK243 := Aside0.mk (blk_drew BK243.out)
          replace HB := Aside0.mk (below_drew1 HB.out)
          have p278 : 0 ≤ (t246 : Int) := of_decide_eq_true qA
          have q278 : t246 < (l0.length : Int) := of_decide_eq_true qA
          obtain ⟨ad278, e278, hx278_0, hx278_1, hx278_2, hx278_3, hx278_4, hx278_5⟩ := at_T24 (Kd.V_reads' HO_0.out).2.2 t246 p278 q278
          cases e278
          replace p278 := eq_true p278
          replace q278 := eq_true q278
          have p279 : 0 ≤ (t246 : Int) := of_decide_eq_true qA
          have q279 : t246 < (l0.length : Int) := of_decide_eq_true qA
          obtain ⟨ad279, e279, hx279_0, hx279_1, hx279_2, hx279_3, hx279_4, hx279_5⟩ := at_T24 (Kd.V_reads' HO_0.out).2.2 t246 p279 q279
          obtain rfl : ad278 = ad279 := (by injection e279)
          replace p279 := eq_true p279
          replace q279 := eq_true q279
          refine start_ (n := 20) (S := fun w' => w'.cell? ⟨gb243, 0, none⟩ = some (.int .i64 a1_0) ∧ w'.cell? ⟨gb243, 1, none⟩ = some (.int .i64 a1_1) ∧ w'.cell? ⟨gb243, 2, none⟩ = some (.string a1_2) ∧ w'.cell? ⟨gb243, 3, none⟩ = some (.string a1_3) ∧ w'.cell? ⟨gb243, 4, none⟩ = some (.bool a1_4) ∧ w'.cell? ⟨gb243, 5, none⟩ = some (.string a1_5) ∧ w'.cell? ⟨gb243, 6, none⟩ = some (.int .i64 a1_6) ∧ w'.cell? ⟨gb243, 7, none⟩ = some (.bool a1_7) ∧ w'.cell? ⟨gb243, 8, none⟩ = some (.int .i64 a1_8) ∧ w'.cell? ⟨gb243, 9, none⟩ = some (.int .i64 a1_9) ∧ w'.cell? ⟨gb243, 10, none⟩ = some (.int .i64 a1_10) ∧ w'.cell? (ad278.add ((t246).toNat * 6)) = some (.string ((rd_T24 l0 t246).f0)) ∧ w'.cell? ⟨(ad278.add ((t246).toNat * 6)).block, (ad278.add ((t246).toNat * 6)).off + 1, none⟩ = some (.int .i64 ((rd_T24 l0 t246).f1)) ∧ w'.cell? ⟨(ad278.add ((t246).toNat * 6)).block, (ad278.add ((t246).toNat * 6)).off + 2, none⟩ = some (.bool ((rd_T24 l0 t246).f2)) ∧ w'.cell? ⟨(ad278.add ((t246).toNat * 6)).block, (ad278.add ((t246).toNat * 6)).off + 3, none⟩ = some (.int .i64 ((rd_T24 l0 t246).f3)) ∧ w'.cell? ⟨(ad278.add ((t246).toNat * 6)).block, (ad278.add ((t246).toNat * 6)).off + 4, none⟩ = some (.int .i64 ((rd_T24 l0 t246).f4)) ∧ w'.cell? ⟨(ad278.add ((t246).toNat * 6)).block, (ad278.add ((t246).toNat * 6)).off + 5, none⟩ = some (.int .i64 ((rd_T24 l0 t246).f5)) ∧ w'.cell? (ad278.add ((t246).toNat * 6)) = some (.string ((rd_T24 l0 t246).f0)) ∧ w'.cell? ⟨(ad278.add ((t246).toNat * 6)).block, (ad278.add ((t246).toNat * 6)).off + 1, none⟩ = some (.int .i64 ((rd_T24 l0 t246).f1)) ∧ w'.cell? ⟨(ad278.add ((t246).toNat * 6)).block, (ad278.add ((t246).toNat * 6)).off + 2, none⟩ = some (.bool ((rd_T24 l0 t246).f2)) ∧ w'.cell? ⟨(ad278.add ((t246).toNat * 6)).block, (ad278.add ((t246).toNat * 6)).off + 3, none⟩ = some (.int .i64 ((rd_T24 l0 t246).f3)) ∧ w'.cell? ⟨(ad278.add ((t246).toNat * 6)).block, (ad278.add ((t246).toNat * 6)).off + 4, none⟩ = some (.int .i64 ((rd_T24 l0 t246).f4)) ∧ w'.cell? ⟨(ad278.add ((t246).toNat * 6)).block, (ad278.add ((t246).toNat * 6)).off + 5, none⟩ = some (.int .i64 ((rd_T24 l0 t246).f5))) (ds := []) #[false, false, false, false, false, false, false, false, false, false, false, false, false, false, false, false, false, false, false, false] qr rfl rfl ⟨(blk_cell BK243.out 0).trans rfl, (blk_cell BK243.out 1).trans rfl, (blk_cell BK243.out 2).trans rfl, (blk_cell BK243.out 3).trans rfl, (blk_cell BK243.out 4).trans rfl, (blk_cell BK243.out 5).trans rfl, (blk_cell BK243.out 6).trans rfl, (blk_cell BK243.out 7).trans rfl, (blk_cell BK243.out 8).trans rfl, (blk_cell BK243.out 9).trans rfl, (blk_cell BK243.out 10).trans rfl, hx278_0, hx278_1, hx278_2, hx278_3, hx278_4, hx278_5, hx279_0, hx279_1, hx279_2, hx279_3, hx279_4, hx279_5⟩ (fun hHeld => ?_); refine with_tabW chicaneref14_toxics.tab17 chicaneref14_toxics.bits17 (fun HT_ HW_ => ?_)
          generalize wc.drew = w58 at HO_0 BK243 HB hx278_0 hx278_1 hx278_2 hx278_3 hx278_4 hx278_5 hx279_0 hx279_1 hx279_2 hx279_3 hx279_4 hx279_5 hHeld ⊢
          refine qP (i := 0) (N := some 61) HT_.out ?_
          refine qP (i := 1) (N := some 62) HT_.out ?_
          refine qP (i := 2) (N := some 63) HT_.out ?_
          refine qP (i := 3) (N := some 64) HT_.out ?_
          refine qP (i := 5) (N := some 66) HT_.out ?_
          refine qP (i := 6) (N := some 67) HT_.out ?_
          refine take_ (i := 4) (N := some 65) (v := ?_) (a' := ?_) #[true, true, true, true, true, true, true, false, false, false, false, false, false, false, false, false, false, false, false, false] rfl rfl (take_ofW HT_.out HW_.out qr) (fun _ _ _ h => h) (Or.inl ⟨by rfl, ?_⟩) hHeld ?_ ?_
          rotate_left
          ·rintro w' ⟨s0, s1, s2, s3, s4, s5, s6, s7, s8, s9, s10, s11, s12, s13, s14, s15, s16, s17, s18, s19, s20, s21, s22⟩
           go_simp
           with_reducible rfl
          rotate_left
          ·simp only [Act.put, List.setIfInBounds_toArray, List.set_cons_zero, List.set_cons_succ, i64_w, i32_w]
           rfl
          refine take_ (i := 7) (N := some 68) (v := ?_) (a' := ?_) #[true, true, true, true, true, true, true, true, false, false, false, false, false, false, false, false, false, false, false, false] rfl rfl (take_ofW HT_.out HW_.out qr) (fun _ _ _ h => h) (Or.inl ⟨by rfl, ?_⟩) hHeld ?_ ?_
          rotate_left
          ·rintro w' ⟨s0, s1, s2, s3, s4, s5, s6, s7, s8, s9, s10, s11, s12, s13, s14, s15, s16, s17, s18, s19, s20, s21, s22⟩
           go_simp
           with_reducible rfl
          rotate_left
          ·simp only [Act.put, List.setIfInBounds_toArray, List.set_cons_zero, List.set_cons_succ, i64_w, i32_w]
           rfl
          refine qP (i := 8) (N := some 69) HT_.out ?_
          refine qP (i := 9) (N := some 70) HT_.out ?_
          refine qP (i := 10) (N := some 71) HT_.out ?_
          refine qP (i := 11) (N := some 72) HT_.out ?_
          refine qP (i := 12) (N := some 73) HT_.out ?_
          refine qP (i := 13) (N := some 74) HT_.out ?_
          refine qP (i := 15) (N := some 76) HT_.out ?_
          refine qP (i := 16) (N := some 77) HT_.out ?_
          refine take_ (i := 14) (N := some 75) (v := ?_) (a' := ?_) #[true, true, true, true, true, true, true, true, true, true, true, true, true, true, true, true, true, false, false, false] rfl rfl (take_ofW HT_.out HW_.out qr) (fun _ _ _ h => h) (Or.inl ⟨by rfl, ?_⟩) hHeld ?_ ?_
          rotate_left
          ·rintro w' ⟨s0, s1, s2, s3, s4, s5, s6, s7, s8, s9, s10, s11, s12, s13, s14, s15, s16, s17, s18, s19, s20, s21, s22⟩
           go_simp
           with_reducible rfl
          rotate_left
          ·simp only [Act.put, List.setIfInBounds_toArray, List.set_cons_zero, List.set_cons_succ, i64_w, i32_w]
           rfl
          refine take_ (i := 17) (N := some 78) (v := ?_) (a' := ?_) #[true, true, true, true, true, true, true, true, true, true, true, true, true, true, true, true, true, true, false, false] rfl rfl (take_ofW HT_.out HW_.out qr) (fun _ _ _ h => h) (Or.inl ⟨by rfl, ?_⟩) hHeld ?_ ?_
          rotate_left
          ·rintro w' ⟨s0, s1, s2, s3, s4, s5, s6, s7, s8, s9, s10, s11, s12, s13, s14, s15, s16, s17, s18, s19, s20, s21, s22⟩
           go_simp
           with_reducible rfl
          rotate_left
          ·simp only [Act.put, List.setIfInBounds_toArray, List.set_cons_zero, List.set_cons_succ, i64_w, i32_w]
           rfl
          refine qP (i := 18) (N := some 79) HT_.out ?_
          refine qP (i := 19) (N := some 80) HT_.out ?_
          refine done_ (done_of HT_.out qr) ?_
          try go_wp2
          go_ret2
          exact ⟨_, qE, by (with_reducible repeat (first | apply Kd.V_alloc | apply Kd.V_drewN | apply Kd.V_drew)); exact Kd.V_mono HO_0.out (fun _ hk => hk.1), by repeat (first | (with_reducible first | exact HB.out | apply below_alloc | apply pw_below_drewN | apply below_drew1 | refine below_set ?_ GE243.out) | exact HB.out)⟩
         ·rw [if_neg c56] at H
          have c56b0 : (((rd_T24 l0 t246).f2) != a1_7) = false := by simpa using c56
          (try (have c56b1 : decide (((rd_T24 l0 t246).f2) = a1_7) = true := by simpa using c56))
          (try (have c56b2 : (((rd_T24 l0 t246).f2) == a1_7) = true := by simpa using c56))
          clear c56
          obtain ⟨y280, hy280⟩ : ∃ y_ : List (S24), y_ = (([] : List (S24))) := ⟨_, rfl⟩
          replace H : (if y280.length + l0.length < 2513169434916 then ((some (y280 ++ l0 : List (S24))).bind fun y283 => (if t246 < (y283.length : Int) then (some ((y283.set (t246 : Int).toNat (⟨a1_5, a1_6, a1_7, a1_8, a1_9, a1_10⟩ : S24)), 0)) else (none))) else (none)) = some (r1, r2) := by first | (rw [hy280]; with_reducible exact H) | (have H2_ := (Option.bind_some _ _).symm.trans H; rw [hy280]; with_reducible exact H2_) | (have H2_ := (Option.bind_some _ _).symm.trans H; with_reducible exact H2_) | with_reducible exact H | (rw [hy280]; exact H) | exact H
          have Ny280 := Aside0.mk hy280
          clear hy280
          by_cases c59 : y280.length + l0.length < 2513169434916
          ·rw [if_pos c59] at H
           have LMc59 := Aside0.mk c59
           clear c59
           obtain ⟨y283, hy283⟩ : ∃ y_ : List (S24), y_ = (y280 ++ l0) := ⟨_, rfl⟩
           replace H : (if t246 < (y283.length : Int) then (some ((y283.set (t246 : Int).toNat (⟨a1_5, a1_6, a1_7, a1_8, a1_9, a1_10⟩ : S24)), 0)) else (none)) = some (r1, r2) := by first | (rw [hy283]; with_reducible exact H) | (have H2_ := (Option.bind_some _ _).symm.trans H; rw [hy283]; with_reducible exact H2_) | (have H2_ := (Option.bind_some _ _).symm.trans H; with_reducible exact H2_) | with_reducible exact H | (rw [hy283]; exact H) | exact H
           have Ny283 := Aside0.mk hy283
           clear hy283
           by_cases c60 : t246 < (y283.length : Int)
           ·rw [if_pos c60] at H
            have c60b0 : decide (t246 < (y283.length : Int)) = true := decide_eq_true c60
            clear c60
            obtain ⟨y286, hy286⟩ : ∃ y_ : List (S24), y_ = (y283.set (t246 : Int).toNat (⟨a1_5, a1_6, a1_7, a1_8, a1_9, a1_10⟩ : S24)) := ⟨_, rfl⟩
            replace H : (some (y286, 0)) = some (r1, r2) := by first | (rw [hy286]; with_reducible exact H) | (have H2_ := (Option.bind_some _ _).symm.trans H; rw [hy286]; with_reducible exact H2_) | (have H2_ := (Option.bind_some _ _).symm.trans H; with_reducible exact H2_) | with_reducible exact H | (rw [hy286]; exact H) | exact H
            have Ny286 := Aside0.mk hy286
            clear hy286
            simp only [Option.some.injEq, Prod.mk.injEq] at H
            obtain ⟨rfl, rfl⟩ := H
            try go_wp2_with (first | ((with_reducible refine gate_callee (f := 57) rfl ?_); refine goesL_ (some 27) rfl rfl Tryz.func57 qr rfl #[.slice A0 l0.length c0, .string x6_2] rfl qG ?_; (with_reducible refine (chicaneref14_find.calls kj2 _ _ l0 x6_2 t246 _ ?side1 ?side2 A17.out).mono ?_); (case side1 => repeat (first | exact (Kd.V_reads' HO_0.out).2.2 | (with_reducible refine Kd.C_alloc ?_ _) | (with_reducible refine Kd.C_drewN ?_ _) | (with_reducible refine Kd.C_drew ?_))); (case side2 => exact (Kd.V_reads' HO_0.out).2.1); rintro e w' ⟨rfl, ⟨nd, rfl⟩⟩; refine ⟨_, rfl, ?_⟩; (try (rw [drewN_self wc]; generalize hq_ : World.drewN wc _ = wc; replace HO_0 : Aside0 (Kd.V k24 24 wc w.heap.size (fun k_ => (P0_ k_ ∨ w.heap.size ≤ k_) ∧ k_ ≠ gb243) (.slice A0 l0.length c0) l0) := ⟨by rw [← hq_]; exact (qV HO_0.out)⟩; replace BK243 : Aside0 (wc.heap[gb243]? = some (.cells #[.int .i64 a1_0, .int .i64 a1_1, .string a1_2, .string a1_3, .bool a1_4, .string a1_5, .int .i64 a1_6, .bool a1_7, .int .i64 a1_8, .int .i64 a1_9, .int .i64 a1_10] 26 (0, 0))) := ⟨by rw [← hq_]; exact (qK BK243.out)⟩; replace HB : Aside0 (Below w.heap.size w wc) := ⟨by rw [← hq_]; exact (qB1 HB.out GE243.out)⟩; clear hq_)); have hcz62 := qC11 BK243.out))
            replace HO_0 := Aside0.mk (Kd.V_drew HO_0.out)
            replace BK243 := Aside0.mk (blk_drew BK243.out)
            replace HB := Aside0.mk (below_drew1 HB.out)
            have p278 : 0 ≤ (t246 : Int) := of_decide_eq_true qA
            have q278 : t246 < (l0.length : Int) := of_decide_eq_true qA
            obtain ⟨ad278, e278, hx278_0, hx278_1, hx278_2, hx278_3, hx278_4, hx278_5⟩ := at_T24 (Kd.V_reads' HO_0.out).2.2 t246 p278 q278
            cases e278
            replace p278 := eq_true p278
            replace q278 := eq_true q278
            have p279 : 0 ≤ (t246 : Int) := of_decide_eq_true qA
            have q279 : t246 < (l0.length : Int) := of_decide_eq_true qA
            obtain ⟨ad279, e279, hx279_0, hx279_1, hx279_2, hx279_3, hx279_4, hx279_5⟩ := at_T24 (Kd.V_reads' HO_0.out).2.2 t246 p279 q279
            obtain rfl : ad278 = ad279 := (by injection e279)
            replace p279 := eq_true p279
            replace q279 := eq_true q279
            refine start_ (n := 20) (S := fun w' => w'.cell? ⟨gb243, 0, none⟩ = some (.int .i64 a1_0) ∧ w'.cell? ⟨gb243, 1, none⟩ = some (.int .i64 a1_1) ∧ w'.cell? ⟨gb243, 2, none⟩ = some (.string a1_2) ∧ w'.cell? ⟨gb243, 3, none⟩ = some (.string a1_3) ∧ w'.cell? ⟨gb243, 4, none⟩ = some (.bool a1_4) ∧ w'.cell? ⟨gb243, 5, none⟩ = some (.string a1_5) ∧ w'.cell? ⟨gb243, 6, none⟩ = some (.int .i64 a1_6) ∧ w'.cell? ⟨gb243, 7, none⟩ = some (.bool a1_7) ∧ w'.cell? ⟨gb243, 8, none⟩ = some (.int .i64 a1_8) ∧ w'.cell? ⟨gb243, 9, none⟩ = some (.int .i64 a1_9) ∧ w'.cell? ⟨gb243, 10, none⟩ = some (.int .i64 a1_10) ∧ w'.cell? (ad278.add ((t246).toNat * 6)) = some (.string ((rd_T24 l0 t246).f0)) ∧ w'.cell? ⟨(ad278.add ((t246).toNat * 6)).block, (ad278.add ((t246).toNat * 6)).off + 1, none⟩ = some (.int .i64 ((rd_T24 l0 t246).f1)) ∧ w'.cell? ⟨(ad278.add ((t246).toNat * 6)).block, (ad278.add ((t246).toNat * 6)).off + 2, none⟩ = some (.bool ((rd_T24 l0 t246).f2)) ∧ w'.cell? ⟨(ad278.add ((t246).toNat * 6)).block, (ad278.add ((t246).toNat * 6)).off + 3, none⟩ = some (.int .i64 ((rd_T24 l0 t246).f3)) ∧ w'.cell? ⟨(ad278.add ((t246).toNat * 6)).block, (ad278.add ((t246).toNat * 6)).off + 4, none⟩ = some (.int .i64 ((rd_T24 l0 t246).f4)) ∧ w'.cell? ⟨(ad278.add ((t246).toNat * 6)).block, (ad278.add ((t246).toNat * 6)).off + 5, none⟩ = some (.int .i64 ((rd_T24 l0 t246).f5)) ∧ w'.cell? (ad278.add ((t246).toNat * 6)) = some (.string ((rd_T24 l0 t246).f0)) ∧ w'.cell? ⟨(ad278.add ((t246).toNat * 6)).block, (ad278.add ((t246).toNat * 6)).off + 1, none⟩ = some (.int .i64 ((rd_T24 l0 t246).f1)) ∧ w'.cell? ⟨(ad278.add ((t246).toNat * 6)).block, (ad278.add ((t246).toNat * 6)).off + 2, none⟩ = some (.bool ((rd_T24 l0 t246).f2)) ∧ w'.cell? ⟨(ad278.add ((t246).toNat * 6)).block, (ad278.add ((t246).toNat * 6)).off + 3, none⟩ = some (.int .i64 ((rd_T24 l0 t246).f3)) ∧ w'.cell? ⟨(ad278.add ((t246).toNat * 6)).block, (ad278.add ((t246).toNat * 6)).off + 4, none⟩ = some (.int .i64 ((rd_T24 l0 t246).f4)) ∧ w'.cell? ⟨(ad278.add ((t246).toNat * 6)).block, (ad278.add ((t246).toNat * 6)).off + 5, none⟩ = some (.int .i64 ((rd_T24 l0 t246).f5))) (ds := []) #[false, false, false, false, false, false, false, false, false, false, false, false, false, false, false, false, false, false, false, false] qr rfl rfl ⟨(blk_cell BK243.out 0).trans rfl, (blk_cell BK243.out 1).trans rfl, (blk_cell BK243.out 2).trans rfl, (blk_cell BK243.out 3).trans rfl, (blk_cell BK243.out 4).trans rfl, (blk_cell BK243.out 5).trans rfl, (blk_cell BK243.out 6).trans rfl, (blk_cell BK243.out 7).trans rfl, (blk_cell BK243.out 8).trans rfl, (blk_cell BK243.out 9).trans rfl, (blk_cell BK243.out 10).trans rfl, hx278_0, hx278_1, hx278_2, hx278_3, hx278_4, hx278_5, hx279_0, hx279_1, hx279_2, hx279_3, hx279_4, hx279_5⟩ (fun hHeld => ?_); refine with_tabW chicaneref14_toxics.tab17 chicaneref14_toxics.bits17 (fun HT_ HW_ => ?_)
            generalize wc.drew = w63 at HO_0 BK243 HB hx278_0 hx278_1 hx278_2 hx278_3 hx278_4 hx278_5 hx279_0 hx279_1 hx279_2 hx279_3 hx279_4 hx279_5 hHeld ⊢
            refine qP (i := 0) (N := some 61) HT_.out ?_
            refine qP (i := 1) (N := some 62) HT_.out ?_
            refine qP (i := 2) (N := some 63) HT_.out ?_
            refine qP (i := 3) (N := some 64) HT_.out ?_
            refine qP (i := 5) (N := some 66) HT_.out ?_
            refine qP (i := 6) (N := some 67) HT_.out ?_
            refine take_ (i := 4) (N := some 65) (v := ?_) (a' := ?_) #[true, true, true, true, true, true, true, false, false, false, false, false, false, false, false, false, false, false, false, false] rfl rfl (take_ofW HT_.out HW_.out qr) (fun _ _ _ h => h) (Or.inl ⟨by rfl, ?_⟩) hHeld ?_ ?_
            rotate_left
            ·rintro w' ⟨s0, s1, s2, s3, s4, s5, s6, s7, s8, s9, s10, s11, s12, s13, s14, s15, s16, s17, s18, s19, s20, s21, s22⟩
             go_simp
             with_reducible rfl
            rotate_left
            ·simp only [Act.put, List.setIfInBounds_toArray, List.set_cons_zero, List.set_cons_succ, i64_w, i32_w]
             rfl
            refine take_ (i := 7) (N := some 68) (v := ?_) (a' := ?_) #[true, true, true, true, true, true, true, true, false, false, false, false, false, false, false, false, false, false, false, false] rfl rfl (take_ofW HT_.out HW_.out qr) (fun _ _ _ h => h) (Or.inl ⟨by rfl, ?_⟩) hHeld ?_ ?_
            rotate_left
            ·rintro w' ⟨s0, s1, s2, s3, s4, s5, s6, s7, s8, s9, s10, s11, s12, s13, s14, s15, s16, s17, s18, s19, s20, s21, s22⟩
             go_simp
             with_reducible rfl
            rotate_left
            ·simp only [Act.put, List.setIfInBounds_toArray, List.set_cons_zero, List.set_cons_succ, i64_w, i32_w]
             rfl
            refine qP (i := 8) (N := some 69) HT_.out ?_
            refine qP (i := 9) (N := some 70) HT_.out ?_
            refine qP (i := 10) (N := some 71) HT_.out ?_
            refine qP (i := 11) (N := some 72) HT_.out ?_
            refine qP (i := 12) (N := some 73) HT_.out ?_
            refine qP (i := 13) (N := some 74) HT_.out ?_
            refine qP (i := 15) (N := some 76) HT_.out ?_
            refine qP (i := 16) (N := some 77) HT_.out ?_
            refine take_ (i := 14) (N := some 75) (v := ?_) (a' := ?_) #[true, true, true, true, true, true, true, true, true, true, true, true, true, true, true, true, true, false, false, false] rfl rfl (take_ofW HT_.out HW_.out qr) (fun _ _ _ h => h) (Or.inl ⟨by rfl, ?_⟩) hHeld ?_ ?_
            rotate_left
            ·rintro w' ⟨s0, s1, s2, s3, s4, s5, s6, s7, s8, s9, s10, s11, s12, s13, s14, s15, s16, s17, s18, s19, s20, s21, s22⟩
             go_simp
             with_reducible rfl
            rotate_left
            ·simp only [Act.put, List.setIfInBounds_toArray, List.set_cons_zero, List.set_cons_succ, i64_w, i32_w]
             rfl
            refine take_ (i := 17) (N := some 78) (v := ?_) (a' := ?_) #[true, true, true, true, true, true, true, true, true, true, true, true, true, true, true, true, true, true, false, false] rfl rfl (take_ofW HT_.out HW_.out qr) (fun _ _ _ h => h) (Or.inl ⟨by rfl, ?_⟩) hHeld ?_ ?_
            rotate_left
            ·rintro w' ⟨s0, s1, s2, s3, s4, s5, s6, s7, s8, s9, s10, s11, s12, s13, s14, s15, s16, s17, s18, s19, s20, s21, s22⟩
             go_simp
             with_reducible rfl
            rotate_left
            ·simp only [Act.put, List.setIfInBounds_toArray, List.set_cons_zero, List.set_cons_succ, i64_w, i32_w]
             rfl
            refine qP (i := 18) (N := some 79) HT_.out ?_
            refine qP (i := 19) (N := some 80) HT_.out ?_
            refine done_ (done_of HT_.out qr) ?_
            try go_wp2_with (first | ((with_reducible refine gate_dst (N := 82) rfl ?_); refine Kd.R_lit k24 _ 24 ?hg (N := 82) ?hd (xs := ([] : List (S24))) (inner := []) (ok := fun _ => True) (okp := fun _ => True) ?hr ?hp (fun _ hk => hk) trivial (Below.refl _ _) (Nat.le_refl _) (by simp) ?_; (case hd => rfl); (case hg => rfl); (case hr => first | (go_simp; done) | (go_simp; rfl)); (case hp => exact (Reps.none _ _)); intro v281 w64 ho65 hb hg_ hnew_; clear hg_ hnew_; (first | rw [← Ny280.out] at ho65 | (simp only [Int.reduceToNat] at ho65; rw [← Ny280.out] at ho65)); replace HO_0 := Aside0.mk (Kd.V_elder' (qV HO_0.out) (Kd.R_base ho65) hb); have HO282 := Aside0.mk (Kd.R_lower (Kd.R_newM (M := fun k_ => (w.heap.size ≤ k_)) ho65 (below_size (qB1 HB.out GE243.out)) (fun k_ h_ => h_)) (below_size (qB1 HB.out GE243.out))); replace BK243 := Aside0.mk (blk_below (qK BK243.out) hb); replace HB := Aside0.mk (below_step (qB1 HB.out GE243.out) hb); clear hb ho65) | ((with_reducible refine gate_builtin (b := .append) (xs := #[.tmp 82, .tmp 83]) rfl ?_); at_builtin; refine Kd.R_append_rows k24 (w0 := w) w.heap.size rfl (.tmp 82) (.tmp 83) 37 24 (.agg #[(.string ⟨#[]⟩), (.int .i64 0), (.bool false), (.int .i64 0), (.int .i64 0), (.int .i64 0)]) 56 rfl Tryz.underlying37 info24 rfl (by decide) (by omega) v281 y280 l0 _ _ _ (fun k_ => (w.heap.size ≤ k_)) (fun _ => False) rfl rfl ?aO ?aR (fun _ _ h => h) (fun _ h => h.elim) ?aF ?aB ?aS ?aL ?_; (case aR => repeat (first | exact (Kd.V_reads' HO_0.out).2.2 | (with_reducible refine Kd.C_alloc ?_ _) | (with_reducible refine Kd.C_drewN ?_ _) | (with_reducible refine Kd.C_drew ?_))); (case aB => exact (qB1 HB.out GE243.out)); (case aF => exact (fun k_ hk => (Nat.le_trans (below_size (qB1 HB.out GE243.out)) hk))); (case aO => exact (qR (Kd.R_mono HO282.out (fun _ hk => hk.1)))); (case aS => exact (below_size (qB1 HB.out GE243.out))); (case aL => have := LMc59.out; omega); intro v284 w66 ho hb hg hat; rw [← Ny283.out] at ho; replace HO_0 := Aside0.mk (Kd.V_afterv (ok := (fun k_ => (P0_ k_ ∨ w.heap.size ≤ k_) ∧ k_ ≠ gb243)) (qV HO_0.out) hg hat); replace BK243 := Aside0.mk (blk_grown (qK BK243.out) hg (Kd.R_ne HO282.out BK243.out (by decide))); replace HB := Aside0.mk (hb); have HO285 := Aside0.mk (ho); clear HO282 ho hb hg hat; have hcz67 := qC11 BK243.out; have p61 : 0 ≤ (t246 : Int) := of_decide_eq_true qA; have q61 : (t246 : Int) < ((y283.length : Int) : Int) := of_decide_eq_true qA; obtain ⟨go61, co61, eo61, gb61, gl61, cl61, HG61⟩ := Kd.R_form HO285.out (by omega); (first | cases eo61 | (injection eo61 with ea_ en_ ec_; (first | subst ea_ | (injection ea_ with ea_; subst ea_)); subst ec_; clear en_)); have GB61 := Aside0.mk gb61; have GG61 := Aside0.mk HG61; clear gb61 gl61 HG61; obtain ⟨ce61, hcl61, hM61, hcc61, hfr61⟩ := Kd.R_elem HO285.out z24 (t246 : Int) p61 q61; obtain rfl := k24_openM hM61; have hx61_0 : w66.cell? ⟨go61, (t246 : Int).toNat * 6, none⟩ = some (.string ((rd_T24 y283 t246).f0)) := hcc61 0 _ rfl; have hx61_1 : w66.cell? ⟨go61, (t246 : Int).toNat * 6 + 1, none⟩ = some (.int .i64 ((rd_T24 y283 t246).f1)) := hcc61 1 _ rfl; have hx61_2 : w66.cell? ⟨go61, (t246 : Int).toNat * 6 + 2, none⟩ = some (.bool ((rd_T24 y283 t246).f2)) := hcc61 2 _ rfl; have hx61_3 : w66.cell? ⟨go61, (t246 : Int).toNat * 6 + 3, none⟩ = some (.int .i64 ((rd_T24 y283 t246).f3)) := hcc61 3 _ rfl; have hx61_4 : w66.cell? ⟨go61, (t246 : Int).toNat * 6 + 4, none⟩ = some (.int .i64 ((rd_T24 y283 t246).f4)) := hcc61 4 _ rfl; have hx61_5 : w66.cell? ⟨go61, (t246 : Int).toNat * 6 + 5, none⟩ = some (.int .i64 ((rd_T24 y283 t246).f5)) := hcc61 5 _ rfl; have hf61_0 : w66.frozen? ⟨go61, (t246 : Int).toNat * 6, none⟩ = false := hfr61 0; have hf61_1 : w66.frozen? ⟨go61, (t246 : Int).toNat * 6 + 1, none⟩ = false := hfr61 1; have hf61_2 : w66.frozen? ⟨go61, (t246 : Int).toNat * 6 + 2, none⟩ = false := hfr61 2; have hf61_3 : w66.frozen? ⟨go61, (t246 : Int).toNat * 6 + 3, none⟩ = false := hfr61 3; have hf61_4 : w66.frozen? ⟨go61, (t246 : Int).toNat * 6 + 4, none⟩ = false := hfr61 4; have hf61_5 : w66.frozen? ⟨go61, (t246 : Int).toNat * 6 + 5, none⟩ = false := hfr61 5; clear hcl61 hcc61 hfr61 hM61; replace p61 := eq_true p61; replace q61 := eq_true q61; have HX68 := Aside0.mk (show Kd.R k24 24 w66 w.heap.size (fun k_ => (w.heap.size ≤ k_)) (.slice (some ⟨go61, 0, none⟩) y283.length co61) y283 from (qR HO285.out)); obtain ⟨ce68, hcl68, hM68, hcc68, hfr68⟩ := Kd.R_elem HX68.out z24 (t246 : Int) (of_decide_eq_true qA) (by have h_ : (t246 : Int) < ((y283.length : Int) : Int) := of_decide_eq_true qA; first | exact h_ | (have e_ := (Kd.R_reads' HO285.out).1; omega) | simpa using h_); obtain rfl := k24_openM hM68; have HP68 := Kd.R_seg HX68.out (t246 : Int) (of_decide_eq_true qA) (by have h_ : (t246 : Int) < ((y283.length : Int) : Int) := of_decide_eq_true qA; first | exact h_ | (have e_ := (Kd.R_reads' HO285.out).1; omega) | simpa using h_) (seg := [.string a1_5, .int .i64 a1_6, .bool a1_7, .int .i64 a1_8, .int .i64 a1_9, .int .i64 a1_10]) (j := 0) hcl68 hcc68 (show 6 ≤ 6 from by decide) (x' := (⟨a1_5, a1_6, a1_7, a1_8, a1_9, a1_10⟩ : S24)) (k24_mkM _ _ _ (⟨a1_5, a1_6, a1_7, a1_8, a1_9, a1_10⟩ : S24) ) (fun _ hk => hk); have hx68_0 := hcc68 0 _ rfl; (try simp only [show (k24).sz = 6 from rfl, Nat.mul_one, Nat.add_zero] at hx68_0); have hf68_0 := hfr68 0; (try simp only [show (k24).sz = 6 from rfl, Nat.mul_one, Nat.add_zero] at hf68_0); have hx68_1 := hcc68 1 _ rfl; (try simp only [show (k24).sz = 6 from rfl, Nat.mul_one, Nat.add_zero] at hx68_1); have hf68_1 := hfr68 1; (try simp only [show (k24).sz = 6 from rfl, Nat.mul_one, Nat.add_zero] at hf68_1); have hx68_2 := hcc68 2 _ rfl; (try simp only [show (k24).sz = 6 from rfl, Nat.mul_one, Nat.add_zero] at hx68_2); have hf68_2 := hfr68 2; (try simp only [show (k24).sz = 6 from rfl, Nat.mul_one, Nat.add_zero] at hf68_2); have hx68_3 := hcc68 3 _ rfl; (try simp only [show (k24).sz = 6 from rfl, Nat.mul_one, Nat.add_zero] at hx68_3); have hf68_3 := hfr68 3; (try simp only [show (k24).sz = 6 from rfl, Nat.mul_one, Nat.add_zero] at hf68_3); have hx68_4 := hcc68 4 _ rfl; (try simp only [show (k24).sz = 6 from rfl, Nat.mul_one, Nat.add_zero] at hx68_4); have hf68_4 := hfr68 4; (try simp only [show (k24).sz = 6 from rfl, Nat.mul_one, Nat.add_zero] at hf68_4); have hx68_5 := hcc68 5 _ rfl; (try simp only [show (k24).sz = 6 from rfl, Nat.mul_one, Nat.add_zero] at hx68_5); have hf68_5 := hfr68 5; (try simp only [show (k24).sz = 6 from rfl, Nat.mul_one, Nat.add_zero] at hf68_5); clear hcl68 hcc68 hfr68 hM68) | ((with_reducible refine gate_store (t := 24) (p := 89) rfl ?_); refine store_event (t := 24) (p := 89) (v := ?vo_w69) (w1 := ((((((w66.setCell ⟨go61, (t246 : Int).toNat * 6, none⟩ (.string a1_5)).setCell ⟨go61, (t246 : Int).toNat * 6 + 1, none⟩ (.int .i64 a1_6)).setCell ⟨go61, (t246 : Int).toNat * 6 + 2, none⟩ (.bool a1_7)).setCell ⟨go61, (t246 : Int).toNat * 6 + 3, none⟩ (.int .i64 a1_8)).setCell ⟨go61, (t246 : Int).toNat * 6 + 4, none⟩ (.int .i64 a1_9)).setCell ⟨go61, (t246 : Int).toNat * 6 + 5, none⟩ (.int .i64 a1_10))) ?hg ?ho ?hn ?hr ?_; (case ho => rfl); (case hg => rfl); (case hn => rfl); (case hr => first | (go_simp; done) | (go_simp; rfl)); intro w69 hw; have hg : w66.grownBy w69 (some go61) := (by rw [hw]; exact HP68.2); have hp_ : Kd.R k24 24 w69 w.heap.size (fun k_ => (w.heap.size ≤ k_)) (.slice (some ⟨go61, 0, none⟩) y283.length co61) y286 := (by rw [hw, Ny286.out]; exact HP68.1); clear HP68; replace HO_0 := Aside0.mk (Kd.V_afterv (v := (.slice (some ⟨go61, 0, none⟩) y283.length co61)) (v1 := (.slice (some ⟨go61, 0, none⟩) y283.length co61)) (ok := (fun k_ => (P0_ k_ ∨ w.heap.size ≤ k_) ∧ k_ ≠ gb243)) (qV HO_0.out) hg (.inl rfl)); replace BK243 := Aside0.mk (blk_grown (qK BK243.out) hg (Kd.R_ne HO285.out BK243.out (by decide))); replace HO285 := Aside0.mk (hp_); replace HB := Aside0.mk ((by rw [hw]; exact below_set (below_set (below_set (below_set (below_set (below_set (HB.out) GB61.out) GB61.out) GB61.out) GB61.out) GB61.out) GB61.out : Below w.heap.size w w69)); clear hg hw hp_))
            go_ret2
            exact ⟨_, qE, Kd.V_mono (Kd.R_V (qR HO285.out)) (fun k_ hk => by first | exact ⟨(.inr (hk.1)), hk.2⟩ | exact (.inr (hk))), by repeat (first | (with_reducible first | exact HB.out | apply below_alloc | apply pw_below_drewN | apply below_drew1 | refine below_set ?_ GE243.out) | exact HB.out)⟩
           ·rw [if_neg c60] at H
            exact absurd H (by simp)
          ·rw [if_neg c59] at H
           exact absurd H (by simp)
        ·rw [if_neg c55] at H
         have c55b0 : (((rd_T24 l0 t246).f1) == a1_6) = false := beq_eq_false_iff_ne.mpr c55
         have c55b1 : (((rd_T24 l0 t246).f1) != a1_6) = true := bne_iff_ne.mpr c55
         simp only [Option.some.injEq, Prod.mk.injEq] at H
         obtain ⟨rfl, rfl⟩ := H
         try go_wp2_with (first | ((with_reducible refine gate_callee (f := 57) rfl ?_); refine goesL_ (some 27) rfl rfl Tryz.func57 qr rfl #[.slice A0 l0.length c0, .string x6_2] rfl qG ?_; (with_reducible refine (chicaneref14_find.calls kj2 _ _ l0 x6_2 t246 _ ?side1 ?side2 A17.out).mono ?_); (case side1 => repeat (first | exact (Kd.V_reads' HO_0.out).2.2 | (with_reducible refine Kd.C_alloc ?_ _) | (with_reducible refine Kd.C_drewN ?_ _) | (with_reducible refine Kd.C_drew ?_))); (case side2 => exact (Kd.V_reads' HO_0.out).2.1); rintro e w' ⟨rfl, ⟨nd, rfl⟩⟩; refine ⟨_, rfl, ?_⟩; have hcz70 := qC11 BK243.out))
         (try (rw [drewN_self wc]; generalize hq_ : World.drewN wc _ = wc; replace HO_0 : Aside0 (Kd.V k24 24 wc w.heap.size (fun k_ => (P0_ k_ ∨ w.heap.size ≤ k_) ∧ k_ ≠ gb243) (.slice A0 l0.length c0) l0) := ⟨by rw [← hq_]; exact (qV HO_0.out)⟩; replace BK243 : Aside0 (wc.heap[gb243]? = some (.cells #[.int .i64 a1_0, .int .i64 a1_1, .string a1_2, .string a1_3, .bool a1_4, .string a1_5, .int .i64 a1_6, .bool a1_7, .int .i64 a1_8, .int .i64 a1_9, .int .i64 a1_10] 26 (0, 0))) := ⟨by rw [← hq_]; exact (qK BK243.out)⟩; replace HB : Aside0 (Below w.heap.size w wc) := ⟨by rw [← hq_]; exact (qB1 HB.out GE243.out)⟩; clear hq_))
         replace HO_0 := Aside0.mk (Kd.V_drew HO_0.out)
         replace BK243 := Aside0.mk (blk_drew BK243.out)
         replace HB := Aside0.mk (below_drew1 HB.out)
         have p278 : 0 ≤ (t246 : Int) := of_decide_eq_true qA
         have q278 : t246 < (l0.length : Int) := of_decide_eq_true qA
         obtain ⟨ad278, e278, hx278_0, hx278_1, hx278_2, hx278_3, hx278_4, hx278_5⟩ := at_T24 (Kd.V_reads' HO_0.out).2.2 t246 p278 q278
         cases e278
         replace p278 := eq_true p278
         replace q278 := eq_true q278
         refine start_ (n := 20) (S := fun w' => w'.cell? ⟨gb243, 0, none⟩ = some (.int .i64 a1_0) ∧ w'.cell? ⟨gb243, 1, none⟩ = some (.int .i64 a1_1) ∧ w'.cell? ⟨gb243, 2, none⟩ = some (.string a1_2) ∧ w'.cell? ⟨gb243, 3, none⟩ = some (.string a1_3) ∧ w'.cell? ⟨gb243, 4, none⟩ = some (.bool a1_4) ∧ w'.cell? ⟨gb243, 5, none⟩ = some (.string a1_5) ∧ w'.cell? ⟨gb243, 6, none⟩ = some (.int .i64 a1_6) ∧ w'.cell? ⟨gb243, 7, none⟩ = some (.bool a1_7) ∧ w'.cell? ⟨gb243, 8, none⟩ = some (.int .i64 a1_8) ∧ w'.cell? ⟨gb243, 9, none⟩ = some (.int .i64 a1_9) ∧ w'.cell? ⟨gb243, 10, none⟩ = some (.int .i64 a1_10) ∧ w'.cell? (ad278.add ((t246).toNat * 6)) = some (.string ((rd_T24 l0 t246).f0)) ∧ w'.cell? ⟨(ad278.add ((t246).toNat * 6)).block, (ad278.add ((t246).toNat * 6)).off + 1, none⟩ = some (.int .i64 ((rd_T24 l0 t246).f1)) ∧ w'.cell? ⟨(ad278.add ((t246).toNat * 6)).block, (ad278.add ((t246).toNat * 6)).off + 2, none⟩ = some (.bool ((rd_T24 l0 t246).f2)) ∧ w'.cell? ⟨(ad278.add ((t246).toNat * 6)).block, (ad278.add ((t246).toNat * 6)).off + 3, none⟩ = some (.int .i64 ((rd_T24 l0 t246).f3)) ∧ w'.cell? ⟨(ad278.add ((t246).toNat * 6)).block, (ad278.add ((t246).toNat * 6)).off + 4, none⟩ = some (.int .i64 ((rd_T24 l0 t246).f4)) ∧ w'.cell? ⟨(ad278.add ((t246).toNat * 6)).block, (ad278.add ((t246).toNat * 6)).off + 5, none⟩ = some (.int .i64 ((rd_T24 l0 t246).f5))) (ds := []) #[false, false, false, false, false, false, false, false, false, false, false, false, false, false, false, false, false, false, false, false] qr rfl rfl ⟨(blk_cell BK243.out 0).trans rfl, (blk_cell BK243.out 1).trans rfl, (blk_cell BK243.out 2).trans rfl, (blk_cell BK243.out 3).trans rfl, (blk_cell BK243.out 4).trans rfl, (blk_cell BK243.out 5).trans rfl, (blk_cell BK243.out 6).trans rfl, (blk_cell BK243.out 7).trans rfl, (blk_cell BK243.out 8).trans rfl, (blk_cell BK243.out 9).trans rfl, (blk_cell BK243.out 10).trans rfl, hx278_0, hx278_1, hx278_2, hx278_3, hx278_4, hx278_5⟩ (fun hHeld => ?_); refine with_tabW chicaneref14_toxics.tab17 chicaneref14_toxics.bits17 (fun HT_ HW_ => ?_)
         generalize wc.drew = w71 at HO_0 BK243 HB hx278_0 hx278_1 hx278_2 hx278_3 hx278_4 hx278_5 hHeld ⊢
         refine qP (i := 0) (N := some 61) HT_.out ?_
         refine qP (i := 1) (N := some 62) HT_.out ?_
         refine qP (i := 2) (N := some 63) HT_.out ?_
         refine qP (i := 3) (N := some 64) HT_.out ?_
         refine qP (i := 5) (N := some 66) HT_.out ?_
         refine qP (i := 6) (N := some 67) HT_.out ?_
         refine take_ (i := 4) (N := some 65) (v := ?_) (a' := ?_) #[true, true, true, true, true, true, true, false, false, false, false, false, false, false, false, false, false, false, false, false] rfl rfl (take_ofW HT_.out HW_.out qr) (fun _ _ _ h => h) (Or.inl ⟨by rfl, ?_⟩) hHeld ?_ ?_
         rotate_left
         ·rintro w' ⟨s0, s1, s2, s3, s4, s5, s6, s7, s8, s9, s10, s11, s12, s13, s14, s15, s16⟩
          go_simp
          with_reducible rfl
         rotate_left
         ·simp only [Act.put, List.setIfInBounds_toArray, List.set_cons_zero, List.set_cons_succ, i64_w, i32_w]
          rfl
         refine take_ (i := 7) (N := some 68) (v := ?_) (a' := ?_) #[true, true, true, true, true, true, true, true, false, false, false, false, false, false, false, false, false, false, false, false] rfl rfl (take_ofW HT_.out HW_.out qr) (fun _ _ _ h => h) (Or.inl ⟨by rfl, ?_⟩) hHeld ?_ ?_
         rotate_left
         ·rintro w' ⟨s0, s1, s2, s3, s4, s5, s6, s7, s8, s9, s10, s11, s12, s13, s14, s15, s16⟩
          go_simp
          with_reducible rfl
         rotate_left
         ·simp only [Act.put, List.setIfInBounds_toArray, List.set_cons_zero, List.set_cons_succ, i64_w, i32_w]
          rfl
         refine qP (i := 8) (N := some 69) HT_.out ?_
         refine qP (i := 9) (N := some 70) HT_.out ?_
         refine pure_ (i := 10) (N := some 71) (v := undef) (a' := ?_) #[true, true, true, true, true, true, true, true, true, true, true, false, false, false, false, false, false, false, false, false] rfl rfl (any_of HT_.out qr) (fun _ _ _ h => h) (Or.inr ⟨by rfl, rfl⟩) ?_ ?_
         rotate_left
         ·simp only [Act.put, List.setIfInBounds_toArray, List.set_cons_zero, List.set_cons_succ, i64_w, i32_w]
          rfl
         refine pure_ (i := 11) (N := some 72) (v := undef) (a' := ?_) #[true, true, true, true, true, true, true, true, true, true, true, true, false, false, false, false, false, false, false, false] rfl rfl (any_of HT_.out qr) (fun _ _ _ h => h) (Or.inr ⟨by rfl, rfl⟩) ?_ ?_
         rotate_left
         ·simp only [Act.put, List.setIfInBounds_toArray, List.set_cons_zero, List.set_cons_succ, i64_w, i32_w]
          rfl
         refine pure_ (i := 12) (N := some 73) (v := undef) (a' := ?_) #[true, true, true, true, true, true, true, true, true, true, true, true, true, false, false, false, false, false, false, false] rfl rfl (any_of HT_.out qr) (fun _ _ _ h => h) (Or.inr ⟨by rfl, rfl⟩) ?_ ?_
         rotate_left
         ·simp only [Act.put, List.setIfInBounds_toArray, List.set_cons_zero, List.set_cons_succ, i64_w, i32_w]
          rfl
         refine pure_ (i := 13) (N := some 74) (v := undef) (a' := ?_) #[true, true, true, true, true, true, true, true, true, true, true, true, true, true, false, false, false, false, false, false] rfl rfl (any_of HT_.out qr) (fun _ _ _ h => h) (Or.inr ⟨by rfl, rfl⟩) ?_ ?_
         rotate_left
         ·simp only [Act.put, List.setIfInBounds_toArray, List.set_cons_zero, List.set_cons_succ, i64_w, i32_w]
          rfl
         refine pure_ (i := 14) (N := some 75) (v := undef) (a' := ?_) #[true, true, true, true, true, true, true, true, true, true, true, true, true, true, true, false, false, false, false, false] rfl rfl (any_of HT_.out qr) (fun _ _ _ h => h) (Or.inr ⟨by rfl, rfl⟩) ?_ ?_
         rotate_left
         ·simp only [Act.put, List.setIfInBounds_toArray, List.set_cons_zero, List.set_cons_succ, i64_w, i32_w]
          rfl
         refine pure_ (i := 15) (N := some 76) (v := undef) (a' := ?_) #[true, true, true, true, true, true, true, true, true, true, true, true, true, true, true, true, false, false, false, false] rfl rfl (any_of HT_.out qr) (fun _ _ _ h => h) (Or.inr ⟨by rfl, rfl⟩) ?_ ?_
         rotate_left
         ·simp only [Act.put, List.setIfInBounds_toArray, List.set_cons_zero, List.set_cons_succ, i64_w, i32_w]
          rfl
         refine pure_ (i := 16) (N := some 77) (v := undef) (a' := ?_) #[true, true, true, true, true, true, true, true, true, true, true, true, true, true, true, true, true, false, false, false] rfl rfl (any_of HT_.out qr) (fun _ _ _ h => h) (Or.inr ⟨by rfl, rfl⟩) ?_ ?_
         rotate_left
         ·simp only [Act.put, List.setIfInBounds_toArray, List.set_cons_zero, List.set_cons_succ, i64_w, i32_w]
          rfl
         refine pure_ (i := 17) (N := some 78) (v := undef) (a' := ?_) #[true, true, true, true, true, true, true, true, true, true, true, true, true, true, true, true, true, true, false, false] rfl rfl (any_of HT_.out qr) (fun _ _ _ h => h) (Or.inr ⟨by rfl, rfl⟩) ?_ ?_
         rotate_left
         ·simp only [Act.put, List.setIfInBounds_toArray, List.set_cons_zero, List.set_cons_succ, i64_w, i32_w]
          rfl
         refine pure_ (i := 18) (N := some 79) (v := undef) (a' := ?_) #[true, true, true, true, true, true, true, true, true, true, true, true, true, true, true, true, true, true, true, false] rfl rfl (any_of HT_.out qr) (fun _ _ _ h => h) (Or.inr ⟨by rfl, rfl⟩) ?_ ?_
         rotate_left
         ·simp only [Act.put, List.setIfInBounds_toArray, List.set_cons_zero, List.set_cons_succ, i64_w, i32_w]
          rfl
         refine qP (i := 19) (N := some 80) HT_.out ?_
         refine done_ (done_of HT_.out qr) ?_
         try go_wp2
         go_ret2
         exact ⟨_, qE, by (with_reducible repeat (first | apply Kd.V_alloc | apply Kd.V_drewN | apply Kd.V_drew)); exact Kd.V_mono HO_0.out (fun _ hk => hk.1), by repeat (first | (with_reducible first | exact HB.out | apply below_alloc | apply pw_below_drewN | apply below_drew1 | refine below_set ?_ GE243.out) | exact HB.out)⟩
       ·rw [if_neg c54] at H
        exact absurd H (by simp)
      ·rw [if_neg c53] at H
       exact absurd H (by simp)
end Go.Proofs.YtlglbpjccpdloaaGreat.PNamA
