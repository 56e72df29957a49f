/- Gathered by a program of this session (shake.py): what the claim's theorem needs. -/
import Derived.Test.YtlglbpjccpdloaaGreatNs1
import Derived.Test.YtlglbpjccpdloaaGreatNs2
import Derived.Test.YtlglbpjccpdloaaGreatNs3
import Derived.Test.YtlglbpjccpdloaaGreatNs4
import Derived.Test.YtlglbpjccpdloaaGreatNs5
import Derived.Test.YtlglbpjccpdloaaGreatNs6
import Derived.Test.YtlglbpjccpdloaaGreatNs7
import Derived.WalkKit
import Derived.ProofKit
import Derived.OpenShut
import Derived.ShutString
import Derived.ChangeOld
import Derived.Below
import Derived.SizedLaws
import Derived.Test.YtlglbpjccpdloaaGreatRows
set_option linter.unusedVariables false
set_option linter.unusedSimpArgs false
namespace Go.Proofs.YtlglbpjccpdloaaGreat.Ext
end Go.Proofs.YtlglbpjccpdloaaGreat.Ext
namespace Go.Proofs.YtlglbpjccpdloaaGreat.NmLaw
end Go.Proofs.YtlglbpjccpdloaaGreat.NmLaw
namespace Go.Proofs.YtlglbpjccpdloaaGreat.PNamA
end Go.Proofs.YtlglbpjccpdloaaGreat.PNamA
namespace Go.Proofs.YtlglbpjccpdloaaGreat.Sq
end Go.Proofs.YtlglbpjccpdloaaGreat.Sq
namespace Go.Proofs.YtlglbpjccpdloaaGreat.Tox
end Go.Proofs.YtlglbpjccpdloaaGreat.Tox
namespace Go.Proofs.YtlglbpjccpdloaaGreat.ToxZ
end Go.Proofs.YtlglbpjccpdloaaGreat.ToxZ
namespace Go.Proofs.YtlglbpjccpdloaaGreatW.PrintLast
end Go.Proofs.YtlglbpjccpdloaaGreatW.PrintLast
namespace Go.Proofs.YtlglbpjccpdloaaGreatW.PrintMore
end Go.Proofs.YtlglbpjccpdloaaGreatW.PrintMore
namespace Go.Proofs.YtlglbpjccpdloaaGreatW.PrintWords
end Go.Proofs.YtlglbpjccpdloaaGreatW.PrintWords
namespace Go.Proofs.YtlglbpjccpdloaaGreat.PNamA
open Go.Proofs.YtlglbpjccpdloaaGreat.Ext Go.Proofs.YtlglbpjccpdloaaGreat.ToxZ Go.RowKit Go.Proofs.YtlglbpjccpdloaaGreatW.PrintWords Go.Proofs.YtlglbpjccpdloaaGreatW.PrintLast Go.Proofs.YtlglbpjccpdloaaGreatW.PrintMore Go.Proofs.YtlglbpjccpdloaaGreat.Sq
attribute [local go_sem] max2_int min2_int max_two min_two max_three min_three max_four min_four   -- for this text's walks alone
set_option linter.unusedVariables false
set_option linter.unusedSimpArgs false
def chicaneref14_Do.l0 : Nat → List (S39) → Int → Option ((List (S39)) × Int)
 | 0, _, _ => none
 | k + 1, x6, x7 => if x7 < (x6.length : Int) then (if 0 ≤ x7 then (chicaneref14_Do.l0 k (x6.set (x7 : Int).toNat (⟨(rd_T39 x6 x7).f0, true, (rd_T39 x6 x7).f2, ([] : List (S24))⟩ : S39)) (wrap64 (x7 + 1))) else (none)) else (some (x6, 0))
def chicaneref14_Do.f (k : Nat) (l0 : List (S39)) (a1_0 : Int) (a1_1 : Int) (a1_2 : ByteArray) (a1_3 : ByteArray) (a1_4 : Bool) (a1_5 : ByteArray) (a1_6 : Int) (a1_7 : Bool) (a1_8 : Int) (a1_9 : Int) (a1_10 : Int) : Option ((List (S39)) × Int) := (chicaneref14_Right.f k l0).bind fun t288 => (if t288 = true then (if a1_0 = 0 then ((chicaneref14_add.f k l0 a1_0 a1_1 a1_2 a1_3 a1_4 a1_5 a1_6 a1_7 a1_8 a1_9 a1_10).bind fun bt289 => (some (bt289.1, bt289.2))) else ((some (([] : List (S39)) : List (S39))).bind fun y293 => (if y293.length + l0.length < 2513169434916 then ((some (y293 ++ l0 : List (S39))).bind fun y296 => (if a1_0 = 6 then (chicaneref14_Do.l0 k y296 0) else ((chicaneref14_Find.f k l0 a1_2).bind fun t302 => (if t302 < 0 then (some (l0, 142)) else (if a1_0 = 1 then ((some (([] : List (S39)) : List (S39))).bind fun y303 => (if 0 ≤ t302 then (if t302 ≤ (l0.length : Int) then ((some (l0.take (t302 : Int).toNat : List (S39))).bind fun y306 => (if y303.length + y306.length < 2513169434916 then ((some (y303 ++ y306 : List (S39))).bind fun y311 => (if 0 ≤ (wrap64 (t302 + 1)) then (if (wrap64 (t302 + 1)) ≤ (l0.length : Int) then ((some (l0.drop ((wrap64 (t302 + 1)) : Int).toNat : List (S39))).bind fun y314 => (if y311.length + y314.length < 2513169434916 then (some ((y311 ++ y314), 0)) else (none))) else (none)) else (none))) else (none))) else (none)) else (none))) else (if a1_0 = 2 then (if 0 ≤ t302 then (if t302 < (y296.length : Int) then (some ((y296.set (t302 : Int).toNat (⟨(rd_T39 y296 t302).f0, a1_4, (rd_T39 y296 t302).f2, (rd_T39 y296 t302).f3⟩ : S39)), 0)) else (none)) else (none)) else (if 0 ≤ t302 then (if t302 < (y296.length : Int) then ((chicaneref14_toxics.f k ((rd_T39 y296 t302).f3) a1_0 a1_1 a1_2 a1_3 a1_4 a1_5 a1_6 a1_7 a1_8 a1_9 a1_10).bind fun bt324 => (some ((y296.set (t302 : Int).toNat (⟨(rd_T39 y296 t302).f0, (rd_T39 y296 t302).f1, (rd_T39 y296 t302).f2, bt324.1⟩ : S39)), bt324.2))) else (none)) else (none)))))))) else (none)))) else (if a1_0 = 6 then (some (([] : List (S39)), 0)) else (some (([] : List (S39)), 1))))
def chicaneref14_Do.T12 : Bool × List (List Nat × List Nat) := (true, [([], []), ([], []), ([], []), ([], []), ([2, 3], [2, 3]), ([4], [4]), ([5], [5]), ([], []), ([], []), ([7, 8], [7, 8]), ([9], [9]), ([10], [10]), ([6, 11], [6, 11]), ([0, 1, 0, 1, 2, 3, 4, 5, 6, 7, 8, 9, 10, 11, 12], [0, 1]), ([13, 12, 0, 1, 2, 3, 4, 5, 6, 7, 8, 9, 10, 11, 12], [12, 13])])
def chicaneref14_Do.B12 : List Nat := [0, 0, 0, 0, 12, 28, 60, 0, 0, 384, 896, 1920, 4092, 8191, 16383]
theorem chicaneref14_Do.tab12 : rtab .any (opsOf Tryz.f10 12) = chicaneref14_Do.T12 := by kernel_rfl
theorem chicaneref14_Do.bits12 : waitsOk chicaneref14_Do.T12.2 chicaneref14_Do.B12 = true := by kernel_rfl
def chicaneref14_Do.T18 : Bool × List (List Nat × List Nat) := (true, [([], []), ([], []), ([], []), ([1, 2], [1, 2]), ([0, 3], [0, 3]), ([], []), ([], []), ([6], [6]), ([5, 7], [5, 7]), ([4, 8, 4], [4, 8]), ([9, 9, 0, 1, 2, 3, 4, 5, 6, 7, 8, 9], [9]), ([10, 0, 1, 2, 3, 4, 5, 6, 7, 8, 9, 10], [])])
def chicaneref14_Do.B18 : List Nat := [0, 0, 0, 6, 15, 0, 0, 64, 224, 511, 1023, 2047]
theorem chicaneref14_Do.tab18 : rtab .any (opsOf Tryz.f10 18) = chicaneref14_Do.T18 := by kernel_rfl
theorem chicaneref14_Do.bits18 : waitsOk chicaneref14_Do.T18.2 chicaneref14_Do.B18 = true := by kernel_rfl
def chicaneref14_Do.T22 : Bool × List (List Nat × List Nat) := (true, [([], []), ([], []), ([0, 1], [0, 1]), ([2], [2]), ([3], [3]), ([], []), ([4, 5], [4, 5]), ([6], [6]), ([7], [7]), ([7], [7]), ([8, 6, 0, 1, 2, 3, 4, 5, 6, 7, 8], [8]), ([9, 10, 0, 1, 2, 3, 4, 5, 6, 7, 8, 9, 10], [9])])
def chicaneref14_Do.B22 : List Nat := [0, 0, 3, 7, 15, 0, 63, 127, 255, 255, 511, 2047]
theorem chicaneref14_Do.tab22 : rtab .any (opsOf Tryz.f10 22) = chicaneref14_Do.T22 := by kernel_rfl
theorem chicaneref14_Do.bits22 : waitsOk chicaneref14_Do.T22.2 chicaneref14_Do.B22 = true := by kernel_rfl
set_option maxHeartbeats 8000000 in
set_option maxRecDepth 100000 in
theorem chicaneref14_Do.calls (k : Nat) (P0_ : Nat → Prop) (A0 : Option Addr) (c0 : Nat) (l0 : List (S39)) (a1_0 : Int) (a1_1 : Int) (a1_2 : ByteArray) (a1_3 : ByteArray) (a1_4 : Bool) (a1_5 : ByteArray) (a1_6 : Int) (a1_7 : Bool) (a1_8 : Int) (a1_9 : Int) (a1_10 : Int) (r1 : List (S39)) (r2 : Int) (w : World) (hs0 : Kd.V k39 39 w w.heap.size (fun k_ => P0_ k_) (.slice A0 l0.length c0) l0) (h : chicaneref14_Do.f k l0 a1_0 a1_1 a1_2 a1_3 a1_4 a1_5 a1_6 a1_7 a1_8 a1_9 a1_10 = some (r1, r2)) :
  Calls Tryz.prog 10 #[.slice A0 l0.length c0, .agg #[.int .i64 a1_0, .int .i64 a1_1, .string a1_2, .string a1_3, .bool a1_4, .string a1_5, .int .i64 a1_6, .bool a1_7, .int .i64 a1_8, .int .i64 a1_9, .int .i64 a1_10]] w fun e w' => ∃ v0_ : Value, e = .returned (.tuple #[v0_, .int .i64 r2]) ∧ Kd.V k39 39 w' w.heap.size (fun k_ => (P0_ k_ ∨ w.heap.size ≤ k_)) v0_ r1 ∧ Below w.heap.size w w' := by
 have hu26 := Tryz.underlying26
 have hu39 := Tryz.underlying39
 have HO0 := Aside0.mk (show Kd.V k39 39 w w.heap.size (fun k_ => (P0_ k_ ∨ w.heap.size ≤ k_)) (.slice A0 l0.length c0) l0 from Kd.V_mono hs0 (fun k_ hk => .inl hk))
 have HB := Aside0.mk (Below.refl w.heap.size w)
 have H : ((chicaneref14_Right.f k l0).bind fun t288 => (if t288 = true then (if a1_0 = 0 then ((chicaneref14_add.f k l0 a1_0 a1_1 a1_2 a1_3 a1_4 a1_5 a1_6 a1_7 a1_8 a1_9 a1_10).bind fun bt289 => (some (bt289.1, bt289.2))) else ((some (([] : List (S39)) : List (S39))).bind fun y293 => (if y293.length + l0.length < 2513169434916 then ((some (y293 ++ l0 : List (S39))).bind fun y296 => (if a1_0 = 6 then (chicaneref14_Do.l0 k y296 0) else ((chicaneref14_Find.f k l0 a1_2).bind fun t302 => (if t302 < 0 then (some (l0, 142)) else (if a1_0 = 1 then ((some (([] : List (S39)) : List (S39))).bind fun y303 => (if 0 ≤ t302 then (if t302 ≤ (l0.length : Int) then ((some (l0.take (t302 : Int).toNat : List (S39))).bind fun y306 => (if y303.length + y306.length < 2513169434916 then ((some (y303 ++ y306 : List (S39))).bind fun y311 => (if 0 ≤ (wrap64 (t302 + 1)) then (if (wrap64 (t302 + 1)) ≤ (l0.length : Int) then ((some (l0.drop ((wrap64 (t302 + 1)) : Int).toNat : List (S39))).bind fun y314 => (if y311.length + y314.length < 2513169434916 then (some ((y311 ++ y314), 0)) else (none))) else (none)) else (none))) else (none))) else (none)) else (none))) else (if a1_0 = 2 then (if 0 ≤ t302 then (if t302 < (y296.length : Int) then (some ((y296.set (t302 : Int).toNat (⟨(rd_T39 y296 t302).f0, a1_4, (rd_T39 y296 t302).f2, (rd_T39 y296 t302).f3⟩ : S39)), 0)) else (none)) else (none)) else (if 0 ≤ t302 then (if t302 < (y296.length : Int) then ((chicaneref14_toxics.f k ((rd_T39 y296 t302).f3) a1_0 a1_1 a1_2 a1_3 a1_4 a1_5 a1_6 a1_7 a1_8 a1_9 a1_10).bind fun bt324 => (some ((y296.set (t302 : Int).toNat (⟨(rd_T39 y296 t302).f0, (rd_T39 y296 t302).f1, (rd_T39 y296 t302).f2, bt324.1⟩ : S39)), bt324.2))) else (none)) else (none)))))))) else (none)))) else (if a1_0 = 6 then (some (([] : List (S39)), 0)) else (some (([] : List (S39)), 1))))) = some (r1, r2) := h
 clear h
 replace H := Option.bind_eq_some_iff.mp H
 obtain ⟨t288, A30, H⟩ := H
 replace H : (if t288 = true then (if a1_0 = 0 then ((chicaneref14_add.f k l0 a1_0 a1_1 a1_2 a1_3 a1_4 a1_5 a1_6 a1_7 a1_8 a1_9 a1_10).bind fun bt289 => (some (bt289.1, bt289.2))) else ((some (([] : List (S39)) : List (S39))).bind fun y293 => (if y293.length + l0.length < 2513169434916 then ((some (y293 ++ l0 : List (S39))).bind fun y296 => (if a1_0 = 6 then (chicaneref14_Do.l0 k y296 0) else ((chicaneref14_Find.f k l0 a1_2).bind fun t302 => (if t302 < 0 then (some (l0, 142)) else (if a1_0 = 1 then ((some (([] : List (S39)) : List (S39))).bind fun y303 => (if 0 ≤ t302 then (if t302 ≤ (l0.length : Int) then ((some (l0.take (t302 : Int).toNat : List (S39))).bind fun y306 => (if y303.length + y306.length < 2513169434916 then ((some (y303 ++ y306 : List (S39))).bind fun y311 => (if 0 ≤ (wrap64 (t302 + 1)) then (if (wrap64 (t302 + 1)) ≤ (l0.length : Int) then ((some (l0.drop ((wrap64 (t302 + 1)) : Int).toNat : List (S39))).bind fun y314 => (if y311.length + y314.length < 2513169434916 then (some ((y311 ++ y314), 0)) else (none))) else (none)) else (none))) else (none))) else (none)) else (none))) else (if a1_0 = 2 then (if 0 ≤ t302 then (if t302 < (y296.length : Int) then (some ((y296.set (t302 : Int).toNat (⟨(rd_T39 y296 t302).f0, a1_4, (rd_T39 y296 t302).f2, (rd_T39 y296 t302).f3⟩ : S39)), 0)) else (none)) else (none)) else (if 0 ≤ t302 then (if t302 < (y296.length : Int) then ((chicaneref14_toxics.f k ((rd_T39 y296 t302).f3) a1_0 a1_1 a1_2 a1_3 a1_4 a1_5 a1_6 a1_7 a1_8 a1_9 a1_10).bind fun bt324 => (some ((y296.set (t302 : Int).toNat (⟨(rd_T39 y296 t302).f0, (rd_T39 y296 t302).f1, (rd_T39 y296 t302).f2, bt324.1⟩ : S39)), bt324.2))) else (none)) else (none)))))))) else (none)))) else (if a1_0 = 6 then (some (([] : List (S39)), 0)) else (some (([] : List (S39)), 1)))) = some (r1, r2) := H
 have A3 := Aside0.mk A30
 clear A30
 by_cases c4 : t288 = true
 ·subst c4
  have H1 : (if a1_0 = 0 then ((chicaneref14_add.f k l0 a1_0 a1_1 a1_2 a1_3 a1_4 a1_5 a1_6 a1_7 a1_8 a1_9 a1_10).bind fun bt289 => (some (bt289.1, bt289.2))) else ((some (([] : List (S39)) : List (S39))).bind fun y293 => (if y293.length + l0.length < 2513169434916 then ((some (y293 ++ l0 : List (S39))).bind fun y296 => (if a1_0 = 6 then (chicaneref14_Do.l0 k y296 0) else ((chicaneref14_Find.f k l0 a1_2).bind fun t302 => (if t302 < 0 then (some (l0, 142)) else (if a1_0 = 1 then ((some (([] : List (S39)) : List (S39))).bind fun y303 => (if 0 ≤ t302 then (if t302 ≤ (l0.length : Int) then ((some (l0.take (t302 : Int).toNat : List (S39))).bind fun y306 => (if y303.length + y306.length < 2513169434916 then ((some (y303 ++ y306 : List (S39))).bind fun y311 => (if 0 ≤ (wrap64 (t302 + 1)) then (if (wrap64 (t302 + 1)) ≤ (l0.length : Int) then ((some (l0.drop ((wrap64 (t302 + 1)) : Int).toNat : List (S39))).bind fun y314 => (if y311.length + y314.length < 2513169434916 then (some ((y311 ++ y314), 0)) else (none))) else (none)) else (none))) else (none))) else (none)) else (none))) else (if a1_0 = 2 then (if 0 ≤ t302 then (if t302 < (y296.length : Int) then (some ((y296.set (t302 : Int).toNat (⟨(rd_T39 y296 t302).f0, a1_4, (rd_T39 y296 t302).f2, (rd_T39 y296 t302).f3⟩ : S39)), 0)) else (none)) else (none)) else (if 0 ≤ t302 then (if t302 < (y296.length : Int) then ((chicaneref14_toxics.f k ((rd_T39 y296 t302).f3) a1_0 a1_1 a1_2 a1_3 a1_4 a1_5 a1_6 a1_7 a1_8 a1_9 a1_10).bind fun bt324 => (some ((y296.set (t302 : Int).toNat (⟨(rd_T39 y296 t302).f0, (rd_T39 y296 t302).f1, (rd_T39 y296 t302).f2, bt324.1⟩ : S39)), bt324.2))) else (none)) else (none)))))))) else (none)))) = some (r1, r2) := by rw [if_pos rfl] at H; exact H
  clear H
  have H := H1
  clear H1
  by_cases c5 : a1_0 = 0
  ·rw [if_pos c5] at H
   have c5b0 : (a1_0 == 0) = true := beq_iff_eq.mpr c5
   have c5b1 : (a1_0 != 0) = false := bne_eq_false_iff_eq.mpr c5
   clear c5
   replace H := Option.bind_eq_some_iff.mp H
   obtain ⟨⟨t289, t292⟩, A60, H⟩ := H
   replace H : (some (t289, t292)) = some (r1, r2) := H
   have A6 := Aside0.mk A60
   clear A60
   simp only [Option.some.injEq, Prod.mk.injEq] at H
   obtain ⟨rfl, rfl⟩ := H
   go_enter Tryz.func10, Tryz.ntmps10
   go_wp2_with (first | ((with_reducible refine gate_dst (N := 3) rfl ?_); refine box_event ?hg (N := 3) ?hd (cs := #[.int .i64 a1_0, .int .i64 a1_1, .string a1_2, .string a1_3, .bool a1_4, .string a1_5, .int .i64 a1_6, .bool a1_7, .int .i64 a1_8, .int .i64 a1_9, .int .i64 a1_10]) (t := 26) ?hr ?_; (case hd => rfl); (case hg => rfl); (case hr => first | (go_simp; done) | (go_simp; rfl)); intro gb287 hg w7 hbox hb; have n0_ := Aside0.mk (Kd.V_below (Kd.V_elderB (qV HO0.out) gb287 (Nat.le_of_eq hg.symm)) hb); have n1_ := Aside0.mk (below_step (qB HB.out) hb); have n2_ := Aside0.mk (hbox); have n3_ := Aside0.mk ((qs hg (below_size (qB HB.out)) : w.heap.size ≤ gb287)); have n4_ := Aside0.mk ((qs hg (below_size (qB HB.out)) : w.heap.size ≤ gb287)); clear HO0 HB; have HO0 := n0_; have HB := n1_; have BK287 := n2_; have GW287 := n3_; have GE287 := n4_; clear n0_ n1_ n2_ n3_ n4_ hb hbox hg) | ((with_reducible refine gate_callee (f := 12) rfl ?_); refine goesL_ (some 12) rfl rfl Tryz.func12 qr rfl #[.slice A0 l0.length c0] rfl qG ?_; (with_reducible refine (chicaneref14_Right.calls k _ _ l0 true _ ?side1 ?side2 A3.out).mono ?_); (case side1 => repeat (first | exact (Kd.V_reads' HO0.out).2.2 | (with_reducible refine Kd.C_alloc ?_ _) | (with_reducible refine Kd.C_drewN ?_ _) | (with_reducible refine Kd.C_drew ?_))); (case side2 => exact (Kd.V_reads' HO0.out).2.1); rintro e w8 ⟨rfl, hb⟩; refine ⟨_, rfl, ?_⟩; replace HO0 := Aside0.mk (Kd.V_below (qV HO0.out) hb); replace BK287 := Aside0.mk (blk_below (qK BK287.out) hb); replace HB := Aside0.mk (below_step (qB1 HB.out GE287.out) hb); (try clear hb); (try clear hb2); (try clear hk); (try clear hi); have hcz9 := qC11 BK287.out) | ((with_reducible refine gate_callee (f := 25) rfl ?_); refine goesL_ (some 22) rfl rfl Tryz.func25 qr rfl #[.slice A0 l0.length c0, .agg #[.int .i64 a1_0, .int .i64 a1_1, .string a1_2, .string a1_3, .bool a1_4, .string a1_5, .int .i64 a1_6, .bool a1_7, .int .i64 a1_8, .int .i64 a1_9, .int .i64 a1_10]] rfl qG ?_; (with_reducible refine (chicaneref14_add.calls k (fun k_ => ((P0_ k_ ∨ w.heap.size ≤ k_) ∧ k_ ≠ gb287)) _ _ l0 a1_0 a1_1 a1_2 a1_3 a1_4 a1_5 a1_6 a1_7 a1_8 a1_9 a1_10 t289 t292 _ ?side1 A6.out).mono ?_); (case side1 => exact HO0.out); rintro e w10 ⟨v290, rfl, ho0, hb⟩; refine ⟨_, rfl, ?_⟩; replace HO0 := Aside0.mk (Kd.V_below (qV HO0.out) hb); have HO291 := Aside0.mk (Kd.V_lower (Kd.V_mono (ok' := fun k_ => (P0_ k_ ∨ w.heap.size ≤ k_) ∧ k_ ≠ gb287) ho0 (fun k_ hk_ => ⟨Or.elim hk_ (fun hs_ => hs_.1) (fun hn_ => (.inr (Nat.le_trans (below_size (qB1 HB.out GE287.out)) hn_))), Or.elim hk_ (fun hs_ => hs_.2) (fun hn_ => (Kd.freshB (qK BK287.out) k_ hn_))⟩)) (below_size (qB1 HB.out GE287.out))); replace BK287 := Aside0.mk (blk_below (qK BK287.out) hb); replace HB := Aside0.mk (below_step (qB1 HB.out GE287.out) hb); (try clear hb); (try clear hb2); (try clear hk); (try clear hi); (try clear ho0)))
   go_ret2
   exact ⟨_, qE, by (with_reducible repeat (first | apply Kd.V_alloc | apply Kd.V_drewN | apply Kd.V_drew)); exact Kd.V_mono HO291.out (fun _ hk => hk.1), by repeat (first | (with_reducible first | exact HB.out | apply below_alloc | apply pw_below_drewN | apply below_drew1 | refine below_set ?_ GE287.out) | exact HB.out)⟩
  ·rw [if_neg c5] at H
   have c5b0 : (a1_0 == 0) = false := beq_eq_false_iff_ne.mpr c5
   have c5b1 : (a1_0 != 0) = true := bne_iff_ne.mpr c5
   obtain ⟨y293, hy293⟩ : ∃ y_ : List (S39), y_ = (([] : List (S39))) := ⟨_, rfl⟩
   replace H : (if y293.length + l0.length < 2513169434916 then ((some (y293 ++ l0 : List (S39))).bind fun y296 => (if a1_0 = 6 then (chicaneref14_Do.l0 k y296 0) else ((chicaneref14_Find.f k l0 a1_2).bind fun t302 => (if t302 < 0 then (some (l0, 142)) else (if a1_0 = 1 then ((some (([] : List (S39)) : List (S39))).bind fun y303 => (if 0 ≤ t302 then (if t302 ≤ (l0.length : Int) then ((some (l0.take (t302 : Int).toNat : List (S39))).bind fun y306 => (if y303.length + y306.length < 2513169434916 then ((some (y303 ++ y306 : List (S39))).bind fun y311 => (if 0 ≤ (wrap64 (t302 + 1)) then (if (wrap64 (t302 + 1)) ≤ (l0.length : Int) then ((some (l0.drop ((wrap64 (t302 + 1)) : Int).toNat : List (S39))).bind fun y314 => (if y311.length + y314.length < 2513169434916 then (some ((y311 ++ y314), 0)) else (none))) else (none)) else (none))) else (none))) else (none)) else (none))) else (if a1_0 = 2 then (if 0 ≤ t302 then (if t302 < (y296.length : Int) then (some ((y296.set (t302 : Int).toNat (⟨(rd_T39 y296 t302).f0, a1_4, (rd_T39 y296 t302).f2, (rd_T39 y296 t302).f3⟩ : S39)), 0)) else (none)) else (none)) else (if 0 ≤ t302 then (if t302 < (y296.length : Int) then ((chicaneref14_toxics.f k ((rd_T39 y296 t302).f3) a1_0 a1_1 a1_2 a1_3 a1_4 a1_5 a1_6 a1_7 a1_8 a1_9 a1_10).bind fun bt324 => (some ((y296.set (t302 : Int).toNat (⟨(rd_T39 y296 t302).f0, (rd_T39 y296 t302).f1, (rd_T39 y296 t302).f2, bt324.1⟩ : S39)), bt324.2))) else (none)) else (none)))))))) else (none)) = some (r1, r2) := by first | (rw [hy293]; with_reducible exact H) | (have H2_ := (Option.bind_some _ _).symm.trans H; rw [hy293]; with_reducible exact H2_) | (have H2_ := (Option.bind_some _ _).symm.trans H; with_reducible exact H2_) | with_reducible exact H | (rw [hy293]; exact H) | exact H
   have Ny293 := Aside0.mk hy293
   clear hy293
   by_cases c11 : y293.length + l0.length < 2513169434916
   ·rw [if_pos c11] at H
    have LMc11 := Aside0.mk c11
    clear c11
    obtain ⟨y296, hy296⟩ : ∃ y_ : List (S39), y_ = (y293 ++ l0) := ⟨_, rfl⟩
    replace H : (if a1_0 = 6 then (chicaneref14_Do.l0 k y296 0) else ((chicaneref14_Find.f k l0 a1_2).bind fun t302 => (if t302 < 0 then (some (l0, 142)) else (if a1_0 = 1 then ((some (([] : List (S39)) : List (S39))).bind fun y303 => (if 0 ≤ t302 then (if t302 ≤ (l0.length : Int) then ((some (l0.take (t302 : Int).toNat : List (S39))).bind fun y306 => (if y303.length + y306.length < 2513169434916 then ((some (y303 ++ y306 : List (S39))).bind fun y311 => (if 0 ≤ (wrap64 (t302 + 1)) then (if (wrap64 (t302 + 1)) ≤ (l0.length : Int) then ((some (l0.drop ((wrap64 (t302 + 1)) : Int).toNat : List (S39))).bind fun y314 => (if y311.length + y314.length < 2513169434916 then (some ((y311 ++ y314), 0)) else (none))) else (none)) else (none))) else (none))) else (none)) else (none))) else (if a1_0 = 2 then (if 0 ≤ t302 then (if t302 < (y296.length : Int) then (some ((y296.set (t302 : Int).toNat (⟨(rd_T39 y296 t302).f0, a1_4, (rd_T39 y296 t302).f2, (rd_T39 y296 t302).f3⟩ : S39)), 0)) else (none)) else (none)) else (if 0 ≤ t302 then (if t302 < (y296.length : Int) then ((chicaneref14_toxics.f k ((rd_T39 y296 t302).f3) a1_0 a1_1 a1_2 a1_3 a1_4 a1_5 a1_6 a1_7 a1_8 a1_9 a1_10).bind fun bt324 => (some ((y296.set (t302 : Int).toNat (⟨(rd_T39 y296 t302).f0, (rd_T39 y296 t302).f1, (rd_T39 y296 t302).f2, bt324.1⟩ : S39)), bt324.2))) else (none)) else (none))))))) = some (r1, r2) := by first | (rw [hy296]; with_reducible exact H) | (have H2_ := (Option.bind_some _ _).symm.trans H; rw [hy296]; with_reducible exact H2_) | (have H2_ := (Option.bind_some _ _).symm.trans H; with_reducible exact H2_) | with_reducible exact H | (rw [hy296]; exact H) | exact H
    have Ny296 := Aside0.mk hy296
    clear hy296
    by_cases c12 : a1_0 = 6
    ·rw [if_pos c12] at H
     have c12b0 : (a1_0 == 6) = true := beq_iff_eq.mpr c12
     have c12b1 : (a1_0 != 6) = false := bne_eq_false_iff_eq.mpr c12
     clear c12
     have H' := Aside0.mk H
     clear H
     go_enter Tryz.func10, Tryz.ntmps10
     go_wp2_with (first | ((with_reducible refine gate_dst (N := 3) rfl ?_); refine box_event ?hg (N := 3) ?hd (cs := #[.int .i64 a1_0, .int .i64 a1_1, .string a1_2, .string a1_3, .bool a1_4, .string a1_5, .int .i64 a1_6, .bool a1_7, .int .i64 a1_8, .int .i64 a1_9, .int .i64 a1_10]) (t := 26) ?hr ?_; (case hd => rfl); (case hg => rfl); (case hr => first | (go_simp; done) | (go_simp; rfl)); intro gb287 hg w13 hbox hb; have n0_ := Aside0.mk (Kd.V_below (Kd.V_elderB (qV HO0.out) gb287 (Nat.le_of_eq hg.symm)) hb); have n1_ := Aside0.mk (below_step (qB HB.out) hb); have n2_ := Aside0.mk (hbox); have n3_ := Aside0.mk ((qs hg (below_size (qB HB.out)) : w.heap.size ≤ gb287)); have n4_ := Aside0.mk ((qs hg (below_size (qB HB.out)) : w.heap.size ≤ gb287)); clear HO0 HB; have HO0 := n0_; have HB := n1_; have BK287 := n2_; have GW287 := n3_; have GE287 := n4_; clear n0_ n1_ n2_ n3_ n4_ hb hbox hg) | ((with_reducible refine gate_callee (f := 12) rfl ?_); refine goesL_ (some 12) rfl rfl Tryz.func12 qr rfl #[.slice A0 l0.length c0] rfl qG ?_; (with_reducible refine (chicaneref14_Right.calls k _ _ l0 true _ ?side1 ?side2 A3.out).mono ?_); (case side1 => repeat (first | exact (Kd.V_reads' HO0.out).2.2 | (with_reducible refine Kd.C_alloc ?_ _) | (with_reducible refine Kd.C_drewN ?_ _) | (with_reducible refine Kd.C_drew ?_))); (case side2 => exact (Kd.V_reads' HO0.out).2.1); rintro e w14 ⟨rfl, hb⟩; refine ⟨_, rfl, ?_⟩; replace HO0 := Aside0.mk (Kd.V_below (qV HO0.out) hb); replace BK287 := Aside0.mk (blk_below (qK BK287.out) hb); replace HB := Aside0.mk (below_step (qB1 HB.out GE287.out) hb); (try clear hb); (try clear hb2); (try clear hk); (try clear hi); have hcz15 := qC11 BK287.out) | ((with_reducible refine gate_dst (N := 25) rfl ?_); refine Kd.N_lit k39 _ 39 ?hg (N' := 25) ?hd (xs := ([] : List (S39))) (inner := []) (ok := (fun k_ => (P0_ k_ ∨ w.heap.size ≤ k_) ∧ k_ ≠ gb287)) (okp := (fun k_ => (P0_ k_ ∨ w.heap.size ≤ k_) ∧ k_ ≠ gb287)) ?hr ?hp (fun _ hk => hk) ((show ∀ k_, w14.heap.size ≤ k_ → (fun k_ => (P0_ k_ ∨ w.heap.size ≤ k_) ∧ k_ ≠ gb287) k_ from fun k_ hk => ⟨(.inr (Nat.le_trans (below_size (qB1 HB.out GE287.out)) hk)), Kd.freshB (qK BK287.out) k_ hk⟩) _ (Nat.le_refl _)) (Below.refl _ _) (Nat.le_refl _) (by simp) ?_; (case hd => rfl); (case hg => rfl); (case hr => first | (go_simp; done) | (go_simp; rfl)); (case hp => exact (Reps.none _ _)); intro v294 w16 ho17 hb hg_ hnew_; clear hg_ hnew_; (first | rw [← Ny293.out] at ho17 | (simp only [Int.reduceToNat] at ho17; rw [← Ny293.out] at ho17)); replace HO0 := Aside0.mk (Kd.V_elder' (qV HO0.out) (Kd.N_base ho17) hb); have HO295 := Aside0.mk (Kd.N_lower ho17 (below_size (qB1 HB.out GE287.out))); replace BK287 := Aside0.mk (blk_below (qK BK287.out) hb); replace HB := Aside0.mk (below_step (qB1 HB.out GE287.out) hb); clear hb ho17) | ((with_reducible refine gate_builtin (b := .append) (xs := #[.tmp 25, .tmp 26]) rfl ?_); at_builtin; refine Kd.N_append_rows k39 (w0 := w) w.heap.size rfl (.tmp 25) (.tmp 26) 22 39 (.agg #[(.string ⟨#[]⟩), (.bool false), (.int .i64 0), (.slice none 0 0)]) 56 rfl Tryz.underlying22 info39 rfl (by decide) (by omega) v294 y293 l0 _ _ _ (fun k_ => (P0_ k_ ∨ w.heap.size ≤ k_) ∧ k_ ≠ gb287) (fun k_ => ((fun k_ => (P0_ k_ ∨ w.heap.size ≤ k_) ∧ k_ ≠ gb287)) k_ ∧ some k_ ≠ (v294 : Value).ownBlock) rfl rfl ?aO ?aR (fun _ hk => hk) ?aF ?aB ?aS ?aL ?_; (case aR => exact (by skip; exact Kd.V_F (Kd.V_mono (ok' := (fun k_ => ((fun k_ => (P0_ k_ ∨ w.heap.size ≤ k_) ∧ k_ ≠ gb287)) k_ ∧ some k_ ≠ (v294 : Value).ownBlock)) (HO0.out) (fun k_ hk => ⟨⟨hk.1.1, hk.1.2⟩, hk.2⟩)))); (case aB => exact (qB1 HB.out GE287.out)); (case aF => exact (fun k_ hk => ⟨(.inr (Nat.le_trans (below_size (qB1 HB.out GE287.out)) hk)), Kd.freshB (qK BK287.out) k_ hk⟩)); (case aO => exact (qN HO295.out)); (case aS => exact (below_size (qB1 HB.out GE287.out))); (case aL => have := LMc11.out; omega); intro v297 w18 ho hb hg hat; rw [← Ny296.out] at ho; replace HO0 := Aside0.mk (Kd.V_afterv (ok := (fun k_ => (P0_ k_ ∨ w.heap.size ≤ k_) ∧ k_ ≠ gb287)) (by (with_reducible repeat (first | apply Kd.V_alloc | apply Kd.V_drewN | apply Kd.V_drew)); (first | exact HO0.out | exact Kd.V_mono HO0.out (fun _ hk => ⟨⟨hk.1, hk.2.2⟩, hk.2.1⟩))) hg hat); replace BK287 := Aside0.mk (blk_grown (qK BK287.out) hg (Kd.N_ne HO295.out BK287.out (by decide))); replace HB := Aside0.mk (hb); have HO298 := Aside0.mk (ho); clear HO295 ho hb hg hat; have hcz19 := qC11 BK287.out))
     go_loopg [7] k (fun kq v7 w' => ∃ (x6_1 : List (S39)) (x7_1 : Int), v7 = .int .i64 x7_1 ∧ Aside0 (chicaneref14_Do.l0 kq x6_1 x7_1 = some (r1, r2)) ∧ Aside0 (kq ≤ k) ∧ Aside0 (Kd.N k39 39 w' w.heap.size (fun k_ => (P0_ k_ ∨ w.heap.size ≤ k_) ∧ k_ ≠ gb287) v297 x6_1) ∧ Aside0 (w'.heap[gb287]? = some (.cells #[.int .i64 a1_0, .int .i64 a1_1, .string a1_2, .string a1_3, .bool a1_4, .string a1_5, .int .i64 a1_6, .bool a1_7, .int .i64 a1_8, .int .i64 a1_9, .int .i64 a1_10] 26 (0, 0))) ∧ Aside0 (Below w.heap.size w w'))
     case atStart => exact ⟨(y296), (0), qE1, H', ⟨Nat.le_refl _⟩, ⟨by (with_reducible repeat (first | apply Kd.N_alloc | apply Kd.N_drewN | apply Kd.N_drew)); exact HO298.out⟩, ⟨by (with_reducible repeat (first | refine blk_drewN ?_ _ | refine blk_drew ?_ | refine blk_alloc ?_ _)); exact BK287.out⟩, ⟨by repeat (first | (with_reducible first | exact HB.out | apply below_alloc | apply pw_below_drewN | apply below_drew1 | refine below_set ?_ GE287.out) | exact HB.out)⟩⟩
     case round =>
      clear H'
      try clear c1
      try clear c2
      try clear p2
      try clear c4
      try clear c5
      try clear c5b0
      try clear c5b1
      try clear p6
      try clear c10
      try clear c11
      try clear c12
      try clear c12b0
      try clear c12b1
      try clear hcz15
      try clear hcz19
      try clear hcz9
      obtain ⟨x6_1, x7_1, rfl, HA, HK1, HO_6, BK287, HB⟩ := hrel
      cases gk with
      | zero => exact absurd HA.out (by simp [chicaneref14_Do.l0])
      | succ k1 =>
       have H := HA.out
       clear HA
       simp only [chicaneref14_Do.l0] at H
       by_cases c20 : x7_1 < (x6_1.length : Int)
       ·rw [if_pos c20] at H
        have c20b0 : decide (x7_1 < (x6_1.length : Int)) = true := decide_eq_true c20
        clear c20
        by_cases c21 : 0 ≤ x7_1
        ·rw [if_pos c21] at H
         have c21b0 : decide (0 ≤ x7_1) = true := decide_eq_true c21
         clear c21
         obtain ⟨y301, hy301⟩ : ∃ y_ : List (S39), y_ = (x6_1.set (x7_1 : Int).toNat (⟨(rd_T39 x6_1 x7_1).f0, true, (rd_T39 x6_1 x7_1).f2, ([] : List (S24))⟩ : S39)) := ⟨_, rfl⟩
         replace H : (chicaneref14_Do.l0 k1 y301 (wrap64 (x7_1 + 1))) = some (r1, r2) := by first | (rw [hy301]; with_reducible exact H) | (have H2_ := (Option.bind_some _ _).symm.trans H; rw [hy301]; with_reducible exact H2_) | (have H2_ := (Option.bind_some _ _).symm.trans H; with_reducible exact H2_) | with_reducible exact H | (rw [hy301]; exact H) | exact H
         have Ny301 := Aside0.mk hy301
         clear hy301
         have H' := Aside0.mk H
         clear H
         obtain ⟨Ao23, co23, eo23⟩ := Kd.N_slice HO_6.out
         subst eo23
         try go_wp2
         replace HO_6 := Aside0.mk (Kd.N_drew HO_6.out)
         replace BK287 := Aside0.mk (blk_drew BK287.out)
         replace HB := Aside0.mk (below_drew1 HB.out)
         have p299 : 0 ≤ (x7_1 : Int) := of_decide_eq_true qA
         have q299 : x7_1 < (x6_1.length : Int) := of_decide_eq_true qA
         obtain ⟨ad299, A299_3, c299_3, e299, hx299_0, hx299_1, hx299_2, hx299_3, hl299_3, hi299_3⟩ := at_T39 (Kd.N_reads' HO_6.out).2.2 x7_1 p299 q299
         cases e299
         obtain ⟨ce299, hce299, hMe299, hcc299⟩ := Kd.N_get HO_6.out z39 x7_1 p299 (by first | exact q299 | exact of_decide_eq_true qA | (have e_ := (Kd.N_reads' HO_6.out).1; omega))
         obtain ⟨ua299_3, uc299_3, rfl, ul299_3, ge299_3⟩ := k39_openF hMe299
         have hv299_3 := hcc299 3 _ rfl
         rw [add_field _ _ 3 (by omega)] at hv299_3
         replace hv299_3 := Option.some.inj (hv299_3.symm.trans hx299_3)
         injection hv299_3 with hva_ hvn_ hvc_
         rw [hva_] at ge299_3
         rw [hvc_] at ul299_3
         have HL299_3 := Aside0.mk (show Kd.V k24 24 _ w.heap.size _ _ ((rd_T39 x6_1 x7_1).f3) from Kd.V_mk ul299_3 ge299_3)
         clear hva_ hvn_ hvc_ ge299_3 ul299_3 hcc299 hce299
         have HR299_3 := Aside0.mk hi299_3
         have HC299_3 := Aside0.mk hl299_3
         clear hi299_3 hl299_3
         replace p299 := eq_true p299
         replace q299 := eq_true q299
         have p300 : 0 ≤ (x7_1 : Int) := of_decide_eq_true qA
         have q300 : x7_1 < (x6_1.length : Int) := of_decide_eq_true qA
         obtain ⟨ad300, A300_3, c300_3, e300, hx300_0, hx300_1, hx300_2, hx300_3, hl300_3, hi300_3⟩ := at_T39 (Kd.N_reads' HO_6.out).2.2 x7_1 p300 q300
         obtain rfl : ad299 = ad300 := (by injection e300)
         obtain ⟨ce300, hce300, hMe300, hcc300⟩ := Kd.N_get HO_6.out z39 x7_1 p300 (by first | exact q300 | exact of_decide_eq_true qA | (have e_ := (Kd.N_reads' HO_6.out).1; omega))
         obtain ⟨ua300_3, uc300_3, rfl, ul300_3, ge300_3⟩ := k39_openF hMe300
         have hv300_3 := hcc300 3 _ rfl
         rw [add_field _ _ 3 (by omega)] at hv300_3
         replace hv300_3 := Option.some.inj (hv300_3.symm.trans hx300_3)
         injection hv300_3 with hva_ hvn_ hvc_
         rw [hva_] at ge300_3
         rw [hvc_] at ul300_3
         have HL300_3 := Aside0.mk (show Kd.V k24 24 _ w.heap.size _ _ ((rd_T39 x6_1 x7_1).f3) from Kd.V_mk ul300_3 ge300_3)
         clear hva_ hvn_ hvc_ ge300_3 ul300_3 hcc300 hce300
         have HR300_3 := Aside0.mk hi300_3
         have HC300_3 := Aside0.mk hl300_3
         clear hi300_3 hl300_3
         replace p300 := eq_true p300
         replace q300 := eq_true q300
         have ea_ := Option.some.inj (hx299_3.symm.trans hx300_3)
         injection ea_ with ea_ en_ ec_
         subst ea_
         subst ec_
         clear en_
         have p22 : 0 ≤ (x7_1 : Int) := of_decide_eq_true qA
         have q22 : (x7_1 : Int) < ((x6_1.length : Int) : Int) := of_decide_eq_true qA
         obtain ⟨go22, co22, eo22, gb22, gl22, cl22, HG22⟩ := Kd.N_form HO_6.out (by omega)
         (first | cases eo22 | (injection eo22 with ea_ en_ ec_; (first | subst ea_ | (injection ea_ with ea_; subst ea_)); subst ec_; clear en_))
         have GB22 := Aside0.mk gb22
         have GG22 := Aside0.mk HG22
         clear gb22 gl22 HG22
         (first | simp only [add_plain] at hx299_0 | skip)
         (first | simp only [add_plain] at hx299_1 | skip)
         (first | simp only [add_plain] at hx299_2 | skip)
         (first | simp only [add_plain] at hx299_3 | skip)
         (first | simp only [add_plain] at hx300_0 | skip)
         (first | simp only [add_plain] at hx300_1 | skip)
         (first | simp only [add_plain] at hx300_2 | skip)
         (first | simp only [add_plain] at hx300_3 | skip)
         obtain ⟨ce22, hcl22, hM22, hcc22, hfr22⟩ := Kd.N_elem HO_6.out z39 (x7_1 : Int) p22 q22
         obtain ⟨ua22_3, uc22_3, rfl, ul22_3, ge22_3⟩ := k39_openF hM22
         have hx22_0 : World.cell? _ ⟨go22, (x7_1 : Int).toNat * 4, none⟩ = some (.string ((rd_T39 x6_1 x7_1).f0)) := hcc22 0 _ rfl
         have hx22_1 : World.cell? _ ⟨go22, (x7_1 : Int).toNat * 4 + 1, none⟩ = some (.bool ((rd_T39 x6_1 x7_1).f1)) := hcc22 1 _ rfl
         have hx22_2 : World.cell? _ ⟨go22, (x7_1 : Int).toNat * 4 + 2, none⟩ = some (.int .i64 ((rd_T39 x6_1 x7_1).f2)) := hcc22 2 _ rfl
         have hx22_3 : World.cell? _ ⟨go22, (x7_1 : Int).toNat * 4 + 3, none⟩ = some (.slice ua22_3 ((rd_T39 x6_1 x7_1).f3).length uc22_3) := hcc22 3 _ rfl
         have hf22_0 : World.frozen? _ ⟨go22, (x7_1 : Int).toNat * 4, none⟩ = false := hfr22 0
         have hf22_1 : World.frozen? _ ⟨go22, (x7_1 : Int).toNat * 4 + 1, none⟩ = false := hfr22 1
         have hf22_2 : World.frozen? _ ⟨go22, (x7_1 : Int).toNat * 4 + 2, none⟩ = false := hfr22 2
         have hf22_3 : World.frozen? _ ⟨go22, (x7_1 : Int).toNat * 4 + 3, none⟩ = false := hfr22 3
         clear hcl22 hcc22 hfr22 hM22
         replace p22 := eq_true p22
         replace q22 := eq_true q22
         have HX25 := Aside0.mk (show Kd.N k39 39 _ w.heap.size (fun k_ => (P0_ k_ ∨ w.heap.size ≤ k_) ∧ k_ ≠ gb287) (.slice (some ⟨go22, 0, none⟩) x6_1.length co23) x6_1 from (Kd.N_mono (HO_6.out) (fun k_ hk => ⟨hk.1, hk.2⟩)))
         obtain ⟨ce25, hcl25, hM25, hcc25, hfr25⟩ := Kd.N_elem HX25.out z39 (x7_1 : Int) (of_decide_eq_true qA) (by have h_ : (x7_1 : Int) < ((x6_1.length : Int) : Int) := of_decide_eq_true qA; first | exact h_ | (have e_ := (Kd.N_reads' HO_6.out).1; omega) | simpa using h_)
         obtain ⟨ua25_3, uc25_3, rfl, ul25_3, ge25_3⟩ := k39_openF hM25
         have HP25 := (Kd.N_seg HX25.out (x7_1 : Int) (of_decide_eq_true qA) (by have h_ : (x7_1 : Int) < ((x6_1.length : Int) : Int) := of_decide_eq_true qA; first | exact h_ | (have e_ := (Kd.N_reads' HO_6.out).1; omega) | simpa using h_) (seg := [.string ((rd_T39 x6_1 x7_1).f0), .bool true, .int .i64 ((rd_T39 x6_1 x7_1).f2), .slice none 0 0]) (j := 0) hcl25 hcc25 (show 4 ≤ 4 from by decide) (x' := (⟨(rd_T39 x6_1 x7_1).f0, true, (rd_T39 x6_1 x7_1).f2, ([] : List (S24))⟩ : S39)) (k39_mkF _ _ (⟨(rd_T39 x6_1 x7_1).f0, true, (rd_T39 x6_1 x7_1).f2, ([] : List (S24))⟩ : S39) (Nat.le_refl _) (Kd.F_nil _ _ _)) (fun _ hk => hk)).1
         rw [← Ny301.out] at HP25
         have HQ25 := Aside0.mk HP25
         clear hcl25 hcc25 hfr25 hM25 HP25
         refine start_ (n := 15) (S := fun w' => w'.cell? ⟨go22, ((x7_1).toNat * 4), none⟩ = some (.string ((rd_T39 x6_1 x7_1).f0)) ∧ w'.cell? ⟨go22, ((x7_1).toNat * 4) + 1, none⟩ = some (.bool ((rd_T39 x6_1 x7_1).f1)) ∧ w'.cell? ⟨go22, ((x7_1).toNat * 4) + 2, none⟩ = some (.int .i64 ((rd_T39 x6_1 x7_1).f2)) ∧ w'.cell? ⟨go22, ((x7_1).toNat * 4) + 3, none⟩ = some (.slice A299_3 ((rd_T39 x6_1 x7_1).f3).length c299_3) ∧ w'.cell? ⟨go22, ((x7_1).toNat * 4), none⟩ = some (.string ((rd_T39 x6_1 x7_1).f0)) ∧ w'.cell? ⟨go22, ((x7_1).toNat * 4) + 1, none⟩ = some (.bool ((rd_T39 x6_1 x7_1).f1)) ∧ w'.cell? ⟨go22, ((x7_1).toNat * 4) + 2, none⟩ = some (.int .i64 ((rd_T39 x6_1 x7_1).f2)) ∧ w'.cell? ⟨go22, ((x7_1).toNat * 4) + 3, none⟩ = some (.slice A299_3 ((rd_T39 x6_1 x7_1).f3).length c299_3)) (ds := [14]) #[false, false, false, false, false, false, false, false, false, false, false, false, false, false, false] qr rfl rfl ⟨hx299_0, hx299_1, hx299_2, hx299_3, hx300_0, hx300_1, hx300_2, hx300_3⟩ (fun hHeld => ?_); refine with_tabW chicaneref14_Do.tab12 chicaneref14_Do.bits12 (fun HT_ HW_ => ?_)
         generalize wr.drew = w24 at HO_6 BK287 HB GG22 HL299_3 HL300_3 HQ25 HR299_3 HR300_3 hf22_0 hf22_1 hf22_2 hf22_3 hx22_0 hx22_1 hx22_2 hx22_3 hx299_0 hx299_1 hx299_2 hx299_3 hx300_0 hx300_1 hx300_2 hx300_3 hHeld ⊢
         refine qP (i := 0) (N := some 37) HT_.out ?_
         refine qP (i := 1) (N := some 38) HT_.out ?_
         refine qP (i := 2) (N := some 39) HT_.out ?_
         refine qP (i := 3) (N := some 40) HT_.out ?_
         refine qP (i := 4) (N := some 41) HT_.out ?_
         refine qP (i := 5) (N := some 42) HT_.out ?_
         refine qP (i := 7) (N := some 44) HT_.out ?_
         refine qP (i := 8) (N := some 45) HT_.out ?_
         refine qP (i := 9) (N := some 46) HT_.out ?_
         refine qP (i := 10) (N := some 47) HT_.out ?_
         refine take_ (i := 6) (N := some 43) (v := ?_) (a' := ?_) #[true, true, true, true, true, true, true, true, true, true, true, false, false, false, false] rfl rfl (take_ofW HT_.out HW_.out qr) (fun _ _ _ h => h) (Or.inl ⟨by rfl, ?_⟩) hHeld ?_ ?_
         rotate_left
         ·rintro w' ⟨s0, s1, s2, s3, s4, s5, s6, s7⟩
          go_simp
          with_reducible rfl
         rotate_left
         ·simp only [Act.put, List.setIfInBounds_toArray, List.set_cons_zero, List.set_cons_succ, i64_w, i32_w]
          rfl
         refine take_ (i := 11) (N := some 48) (v := ?_) (a' := ?_) #[true, true, true, true, true, true, true, true, true, true, true, true, false, false, false] rfl rfl (take_ofW HT_.out HW_.out qr) (fun _ _ _ h => h) (Or.inl ⟨by rfl, ?_⟩) hHeld ?_ ?_
         rotate_left
         ·rintro w' ⟨s0, s1, s2, s3, s4, s5, s6, s7⟩
          go_simp
          with_reducible rfl
         rotate_left
         ·simp only [Act.put, List.setIfInBounds_toArray, List.set_cons_zero, List.set_cons_succ, i64_w, i32_w]
          rfl
         refine qP (i := 12) (N := some 49) HT_.out ?_
         refine qP (i := 13) (N := some 50) HT_.out ?_
         refine last_ (i := 14) (N := none) #[true, true, true, true, true, true, true, true, true, true, true, true, true, true, true] rfl rfl (one_of HT_.out qr) (by decide) (fun K hK => ?_)
         refine skip_ (w1 := ?_) (by rfl) rfl ?_ ?_
         rotate_left
         ·go_simp
          rfl
         refine hK.out _ _ ?_
         clear hK K
         refine done_ (done_of HT_.out qr) ?_
         try go_wp2
         go_roundg k1
         case measure => have := HK1.out; omega
         case rel => exact ⟨(y301), (wrap64 (x7_1 + 1)), qE1, H', ⟨by have := HK1.out; omega⟩, ⟨by (with_reducible repeat (first | apply Kd.N_alloc | apply Kd.N_drewN | apply Kd.N_drew)); exact HQ25.out⟩, ⟨by (with_reducible repeat (first | refine blk_drewN ?_ _ | refine blk_drew ?_ | refine blk_alloc ?_ _)); refine blk_far ?_ (by have h_ := Kd.N_away HO_6.out (fun _ hk => hk.2); intro e_; exact h_ (by rw [e_]; rfl)) _; (with_reducible repeat (first | refine blk_drewN ?_ _ | refine blk_drew ?_ | refine blk_alloc ?_ _)); refine blk_far ?_ (by have h_ := Kd.N_away HO_6.out (fun _ hk => hk.2); intro e_; exact h_ (by rw [e_]; rfl)) _; (with_reducible repeat (first | refine blk_drewN ?_ _ | refine blk_drew ?_ | refine blk_alloc ?_ _)); refine blk_far ?_ (by have h_ := Kd.N_away HO_6.out (fun _ hk => hk.2); intro e_; exact h_ (by rw [e_]; rfl)) _; (with_reducible repeat (first | refine blk_drewN ?_ _ | refine blk_drew ?_ | refine blk_alloc ?_ _)); refine blk_far ?_ (by have h_ := Kd.N_away HO_6.out (fun _ hk => hk.2); intro e_; exact h_ (by rw [e_]; rfl)) _; (with_reducible repeat (first | refine blk_drewN ?_ _ | refine blk_drew ?_ | refine blk_alloc ?_ _)); exact BK287.out⟩, ⟨by repeat (first | (with_reducible first | exact HB.out | apply below_alloc | apply pw_below_drewN | apply below_drew1 | refine below_set ?_ GB22.out | refine below_set ?_ GB22.out | refine below_set ?_ GB22.out | refine below_set ?_ GB22.out | refine below_set ?_ GE287.out) | exact HB.out)⟩⟩
        ·rw [if_neg c21] at H
         exact absurd H (by simp)
       ·rw [if_neg c20] at H
        have c20b0 : decide (x7_1 < (x6_1.length : Int)) = false := decide_eq_false c20
        clear c20
        simp only [Option.some.injEq, Prod.mk.injEq] at H
        obtain ⟨rfl, rfl⟩ := H
        obtain ⟨Ao26, co26, eo26⟩ := Kd.N_slice HO_6.out
        subst eo26
        go_wp2
        go_ret2
        exact ⟨_, qE, Kd.N_V (qN (Kd.N_mono HO_6.out (fun _ hk => hk.1))), by repeat (first | (with_reducible first | exact HB.out | apply below_alloc | apply pw_below_drewN | apply below_drew1 | refine below_set ?_ GE287.out) | exact HB.out)⟩
    ·rw [if_neg c12] at H
     have c12b0 : (a1_0 == 6) = false := beq_eq_false_iff_ne.mpr c12
     have c12b1 : (a1_0 != 6) = true := bne_iff_ne.mpr c12
     replace H := Option.bind_eq_some_iff.mp H
     obtain ⟨t302, A270, H⟩ := H
     replace H : (if t302 < 0 then (some (l0, 142)) else (if a1_0 = 1 then ((some (([] : List (S39)) : List (S39))).bind fun y303 => (if 0 ≤ t302 then (if t302 ≤ (l0.length : Int) then ((some (l0.take (t302 : Int).toNat : List (S39))).bind fun y306 => (if y303.length + y306.length < 2513169434916 then ((some (y303 ++ y306 : List (S39))).bind fun y311 => (if 0 ≤ (wrap64 (t302 + 1)) then (if (wrap64 (t302 + 1)) ≤ (l0.length : Int) then ((some (l0.drop ((wrap64 (t302 + 1)) : Int).toNat : List (S39))).bind fun y314 => (if y311.length + y314.length < 2513169434916 then (some ((y311 ++ y314), 0)) else (none))) else (none)) else (none))) else (none))) else (none)) else (none))) else (if a1_0 = 2 then (if 0 ≤ t302 then (if t302 < (y296.length : Int) then (some ((y296.set (t302 : Int).toNat (⟨(rd_T39 y296 t302).f0, a1_4, (rd_T39 y296 t302).f2, (rd_T39 y296 t302).f3⟩ : S39)), 0)) else (none)) else (none)) else (if 0 ≤ t302 then (if t302 < (y296.length : Int) then ((chicaneref14_toxics.f k ((rd_T39 y296 t302).f3) a1_0 a1_1 a1_2 a1_3 a1_4 a1_5 a1_6 a1_7 a1_8 a1_9 a1_10).bind fun bt324 => (some ((y296.set (t302 : Int).toNat (⟨(rd_T39 y296 t302).f0, (rd_T39 y296 t302).f1, (rd_T39 y296 t302).f2, bt324.1⟩ : S39)), bt324.2))) else (none)) else (none))))) = some (r1, r2) := H
     have A27 := Aside0.mk A270
     clear A270
     by_cases c28 : t302 < 0
     ·rw [if_pos c28] at H
      have c28b0 : decide (t302 < 0) = true := decide_eq_true c28
      clear c28
      simp only [Option.some.injEq, Prod.mk.injEq] at H
      obtain ⟨rfl, rfl⟩ := H
      go_enter Tryz.func10, Tryz.ntmps10
      go_wp2_with (first | ((with_reducible refine gate_dst (N := 3) rfl ?_); refine box_event ?hg (N := 3) ?hd (cs := #[.int .i64 a1_0, .int .i64 a1_1, .string a1_2, .string a1_3, .bool a1_4, .string a1_5, .int .i64 a1_6, .bool a1_7, .int .i64 a1_8, .int .i64 a1_9, .int .i64 a1_10]) (t := 26) ?hr ?_; (case hd => rfl); (case hg => rfl); (case hr => first | (go_simp; done) | (go_simp; rfl)); intro gb287 hg w29 hbox hb; have n0_ := Aside0.mk (Kd.V_below (Kd.V_elderB (qV HO0.out) gb287 (Nat.le_of_eq hg.symm)) hb); have n1_ := Aside0.mk (below_step (qB HB.out) hb); have n2_ := Aside0.mk (hbox); have n3_ := Aside0.mk ((qs hg (below_size (qB HB.out)) : w.heap.size ≤ gb287)); have n4_ := Aside0.mk ((qs hg (below_size (qB HB.out)) : w.heap.size ≤ gb287)); clear HO0 HB; have HO0 := n0_; have HB := n1_; have BK287 := n2_; have GW287 := n3_; have GE287 := n4_; clear n0_ n1_ n2_ n3_ n4_ hb hbox hg) | ((with_reducible refine gate_callee (f := 12) rfl ?_); refine goesL_ (some 12) rfl rfl Tryz.func12 qr rfl #[.slice A0 l0.length c0] rfl qG ?_; (with_reducible refine (chicaneref14_Right.calls k _ _ l0 true _ ?side1 ?side2 A3.out).mono ?_); (case side1 => repeat (first | exact (Kd.V_reads' HO0.out).2.2 | (with_reducible refine Kd.C_alloc ?_ _) | (with_reducible refine Kd.C_drewN ?_ _) | (with_reducible refine Kd.C_drew ?_))); (case side2 => exact (Kd.V_reads' HO0.out).2.1); rintro e w30 ⟨rfl, hb⟩; refine ⟨_, rfl, ?_⟩; replace HO0 := Aside0.mk (Kd.V_below (qV HO0.out) hb); replace BK287 := Aside0.mk (blk_below (qK BK287.out) hb); replace HB := Aside0.mk (below_step (qB1 HB.out GE287.out) hb); (try clear hb); (try clear hb2); (try clear hk); (try clear hi); have hcz31 := qC11 BK287.out) | ((with_reducible refine gate_dst (N := 25) rfl ?_); refine Kd.N_lit k39 _ 39 ?hg (N' := 25) ?hd (xs := ([] : List (S39))) (inner := []) (ok := (fun k_ => (P0_ k_ ∨ w.heap.size ≤ k_) ∧ k_ ≠ gb287)) (okp := (fun k_ => (P0_ k_ ∨ w.heap.size ≤ k_) ∧ k_ ≠ gb287)) ?hr ?hp (fun _ hk => hk) ((show ∀ k_, w30.heap.size ≤ k_ → (fun k_ => (P0_ k_ ∨ w.heap.size ≤ k_) ∧ k_ ≠ gb287) k_ from fun k_ hk => ⟨(.inr (Nat.le_trans (below_size (qB1 HB.out GE287.out)) hk)), Kd.freshB (qK BK287.out) k_ hk⟩) _ (Nat.le_refl _)) (Below.refl _ _) (Nat.le_refl _) (by simp) ?_; (case hd => rfl); (case hg => rfl); (case hr => first | (go_simp; done) | (go_simp; rfl)); (case hp => exact (Reps.none _ _)); intro v294 w32 ho33 hb hg_ hnew_; clear hg_ hnew_; (first | rw [← Ny293.out] at ho33 | (simp only [Int.reduceToNat] at ho33; rw [← Ny293.out] at ho33)); replace HO0 := Aside0.mk (Kd.V_elder' (qV HO0.out) (Kd.N_base ho33) hb); have HO295 := Aside0.mk (Kd.N_lower ho33 (below_size (qB1 HB.out GE287.out))); replace BK287 := Aside0.mk (blk_below (qK BK287.out) hb); replace HB := Aside0.mk (below_step (qB1 HB.out GE287.out) hb); clear hb ho33) | ((with_reducible refine gate_builtin (b := .append) (xs := #[.tmp 25, .tmp 26]) rfl ?_); at_builtin; refine Kd.N_append_rows k39 (w0 := w) w.heap.size rfl (.tmp 25) (.tmp 26) 22 39 (.agg #[(.string ⟨#[]⟩), (.bool false), (.int .i64 0), (.slice none 0 0)]) 56 rfl Tryz.underlying22 info39 rfl (by decide) (by omega) v294 y293 l0 _ _ _ (fun k_ => (P0_ k_ ∨ w.heap.size ≤ k_) ∧ k_ ≠ gb287) (fun k_ => ((fun k_ => (P0_ k_ ∨ w.heap.size ≤ k_) ∧ k_ ≠ gb287)) k_ ∧ some k_ ≠ (v294 : Value).ownBlock) rfl rfl ?aO ?aR (fun _ hk => hk) ?aF ?aB ?aS ?aL ?_; (case aR => exact (by skip; exact Kd.V_F (Kd.V_mono (ok' := (fun k_ => ((fun k_ => (P0_ k_ ∨ w.heap.size ≤ k_) ∧ k_ ≠ gb287)) k_ ∧ some k_ ≠ (v294 : Value).ownBlock)) (HO0.out) (fun k_ hk => ⟨⟨hk.1.1, hk.1.2⟩, hk.2⟩)))); (case aB => exact (qB1 HB.out GE287.out)); (case aF => exact (fun k_ hk => ⟨(.inr (Nat.le_trans (below_size (qB1 HB.out GE287.out)) hk)), Kd.freshB (qK BK287.out) k_ hk⟩)); (case aO => exact (qN HO295.out)); (case aS => exact (below_size (qB1 HB.out GE287.out))); (case aL => have := LMc11.out; omega); intro v297 w34 ho hb hg hat; rw [← Ny296.out] at ho; replace HO0 := Aside0.mk (Kd.V_afterv (ok := (fun k_ => (P0_ k_ ∨ w.heap.size ≤ k_) ∧ k_ ≠ gb287)) (by (with_reducible repeat (first | apply Kd.V_alloc | apply Kd.V_drewN | apply Kd.V_drew)); (first | exact HO0.out | exact Kd.V_mono HO0.out (fun _ hk => ⟨⟨hk.1, hk.2.2⟩, hk.2.1⟩))) hg hat); replace BK287 := Aside0.mk (blk_grown (qK BK287.out) hg (Kd.N_ne HO295.out BK287.out (by decide))); replace HB := Aside0.mk (hb); have HO298 := Aside0.mk (ho); clear HO295 ho hb hg hat; have hcz35 := qC11 BK287.out) | ((with_reducible refine gate_callee (f := 14) rfl ?_); refine goesL_ (some 55) rfl rfl Tryz.func14 qr rfl #[.slice A0 l0.length c0, .string a1_2] rfl qG ?_; (with_reducible refine (chicaneref14_Find.calls k _ _ l0 a1_2 t302 _ ?side1 ?side2 A27.out).mono ?_); (case side1 => repeat (first | exact (Kd.V_reads' HO0.out).2.2 | (with_reducible refine Kd.C_alloc ?_ _) | (with_reducible refine Kd.C_drewN ?_ _) | (with_reducible refine Kd.C_drew ?_))); (case side2 => exact (Kd.V_reads' HO0.out).2.1); rintro e w' ⟨rfl, ⟨nd, rfl⟩⟩; refine ⟨_, rfl, ?_⟩))
      go_ret2
      exact ⟨_, qE, by (with_reducible repeat (first | apply Kd.V_alloc | apply Kd.V_drewN | apply Kd.V_drew)); exact Kd.V_mono HO0.out (fun _ hk => hk.1.1), by repeat (first | (with_reducible first | exact HB.out | apply below_alloc | apply pw_below_drewN | apply below_drew1 | refine below_set ?_ GE287.out) | exact HB.out)⟩
     ·rw [if_neg c28] at H
      have c28b0 : decide (t302 < 0) = false := decide_eq_false c28
      clear c28
      by_cases c36 : a1_0 = 1
      ·rw [if_pos c36] at H
       have c36b0 : (a1_0 == 1) = true := beq_iff_eq.mpr c36
       have c36b1 : (a1_0 != 1) = false := bne_eq_false_iff_eq.mpr c36
       clear c36
       obtain ⟨y303, hy303⟩ : ∃ y_ : List (S39), y_ = (([] : List (S39))) := ⟨_, rfl⟩
       replace H : (if 0 ≤ t302 then (if t302 ≤ (l0.length : Int) then ((some (l0.take (t302 : Int).toNat : List (S39))).bind fun y306 => (if y303.length + y306.length < 2513169434916 then ((some (y303 ++ y306 : List (S39))).bind fun y311 => (if 0 ≤ (wrap64 (t302 + 1)) then (if (wrap64 (t302 + 1)) ≤ (l0.length : Int) then ((some (l0.drop ((wrap64 (t302 + 1)) : Int).toNat : List (S39))).bind fun y314 => (if y311.length + y314.length < 2513169434916 then (some ((y311 ++ y314), 0)) else (none))) else (none)) else (none))) else (none))) else (none)) else (none)) = some (r1, r2) := by first | (rw [hy303]; with_reducible exact H) | (have H2_ := (Option.bind_some _ _).symm.trans H; rw [hy303]; with_reducible exact H2_) | (have H2_ := (Option.bind_some _ _).symm.trans H; with_reducible exact H2_) | with_reducible exact H | (rw [hy303]; exact H) | exact H
       have Ny303 := Aside0.mk hy303
       clear hy303
       by_cases c37 : 0 ≤ t302
       ·rw [if_pos c37] at H
        have c37b0 := eq_true c37
        have c37b1 : decide (0 ≤ t302) = true := decide_eq_true c37
        clear c37
        by_cases c38 : t302 ≤ (l0.length : Int)
        ·rw [if_pos c38] at H
         have c38b0 := eq_true c38
         have c38b1 : decide (t302 ≤ (l0.length : Int)) = true := decide_eq_true c38
         clear c38
         obtain ⟨y306, hy306⟩ : ∃ y_ : List (S39), y_ = (l0.take (t302 : Int).toNat) := ⟨_, rfl⟩
         replace H : (if y303.length + y306.length < 2513169434916 then ((some (y303 ++ y306 : List (S39))).bind fun y311 => (if 0 ≤ (wrap64 (t302 + 1)) then (if (wrap64 (t302 + 1)) ≤ (l0.length : Int) then ((some (l0.drop ((wrap64 (t302 + 1)) : Int).toNat : List (S39))).bind fun y314 => (if y311.length + y314.length < 2513169434916 then (some ((y311 ++ y314), 0)) else (none))) else (none)) else (none))) else (none)) = some (r1, r2) := by first | (rw [hy306]; with_reducible exact H) | (have H2_ := (Option.bind_some _ _).symm.trans H; rw [hy306]; with_reducible exact H2_) | (have H2_ := (Option.bind_some _ _).symm.trans H; with_reducible exact H2_) | with_reducible exact H | (rw [hy306]; exact H) | exact H
         have Ny306 := Aside0.mk hy306
         clear hy306
         by_cases c39 : y303.length + y306.length < 2513169434916
         ·rw [if_pos c39] at H
          have LMc39 := Aside0.mk c39
          clear c39
          obtain ⟨y311, hy311⟩ : ∃ y_ : List (S39), y_ = (y303 ++ y306) := ⟨_, rfl⟩
          replace H : (if 0 ≤ (wrap64 (t302 + 1)) then (if (wrap64 (t302 + 1)) ≤ (l0.length : Int) then ((some (l0.drop ((wrap64 (t302 + 1)) : Int).toNat : List (S39))).bind fun y314 => (if y311.length + y314.length < 2513169434916 then (some ((y311 ++ y314), 0)) else (none))) else (none)) else (none)) = some (r1, r2) := by first | (rw [hy311]; with_reducible exact H) | (have H2_ := (Option.bind_some _ _).symm.trans H; rw [hy311]; with_reducible exact H2_) | (have H2_ := (Option.bind_some _ _).symm.trans H; with_reducible exact H2_) | with_reducible exact H | (rw [hy311]; exact H) | exact H
          have Ny311 := Aside0.mk hy311
          clear hy311
          obtain ⟨ji40, hji40⟩ : ∃ j_ : Int, (wrap64 (t302 + 1)) = j_ := ⟨_, rfl⟩
          replace H : (if 0 ≤ (ji40) then (if (ji40) ≤ (l0.length : Int) then ((some (l0.drop ((ji40) : Int).toNat : List (S39))).bind fun y314 => (if y311.length + y314.length < 2513169434916 then (some ((y311 ++ y314), 0)) else (none))) else (none)) else (none)) = some (r1, r2) := by first | (rw [hji40] at H; exact H) | (simp only [hji40] at H ⊢; exact H)
          (try rw [hji40] at A3)
          (try rw [hji40] at A27)
          have hji40w : (IntKind.i64.wrap (t302 + 1)) = ji40 := (i64_w _).trans hji40
          by_cases c41 : 0 ≤ (ji40)
          ·rw [if_pos c41] at H
           have c41b0 := eq_true c41
           have c41b1 : decide (0 ≤ (ji40)) = true := decide_eq_true c41
           clear c41
           by_cases c42 : (ji40) ≤ (l0.length : Int)
           ·rw [if_pos c42] at H
            have c42b0 := eq_true c42
            have c42b1 : decide ((ji40) ≤ (l0.length : Int)) = true := decide_eq_true c42
            clear c42
            obtain ⟨y314, hy314⟩ : ∃ y_ : List (S39), y_ = (l0.drop ((ji40) : Int).toNat) := ⟨_, rfl⟩
            replace H : (if y311.length + y314.length < 2513169434916 then (some ((y311 ++ y314), 0)) else (none)) = some (r1, r2) := by first | (rw [hy314]; with_reducible exact H) | (have H2_ := (Option.bind_some _ _).symm.trans H; rw [hy314]; with_reducible exact H2_) | (have H2_ := (Option.bind_some _ _).symm.trans H; with_reducible exact H2_) | with_reducible exact H | (rw [hy314]; exact H) | exact H
            have Ny314 := Aside0.mk hy314
            clear hy314
            by_cases c43 : y311.length + y314.length < 2513169434916
            ·rw [if_pos c43] at H
             have LMc43 := Aside0.mk c43
             clear c43
             obtain ⟨y319, hy319⟩ : ∃ y_ : List (S39), y_ = (y311 ++ y314) := ⟨_, rfl⟩
             replace H : (some (y319, 0)) = some (r1, r2) := by first | (rw [hy319]; with_reducible exact H) | (have H2_ := (Option.bind_some _ _).symm.trans H; rw [hy319]; with_reducible exact H2_) | (have H2_ := (Option.bind_some _ _).symm.trans H; with_reducible exact H2_) | with_reducible exact H | (rw [hy319]; exact H) | exact H
             have Ny319 := Aside0.mk hy319
             clear hy319
             simp only [Option.some.injEq, Prod.mk.injEq] at H
             obtain ⟨rfl, rfl⟩ := H
             go_enter Tryz.func10, Tryz.ntmps10
             try go_wp2_with (first | ((with_reducible refine gate_dst (N := 3) rfl ?_); refine box_event ?hg (N := 3) ?hd (cs := #[.int .i64 a1_0, .int .i64 a1_1, .string a1_2, .string a1_3, .bool a1_4, .string a1_5, .int .i64 a1_6, .bool a1_7, .int .i64 a1_8, .int .i64 a1_9, .int .i64 a1_10]) (t := 26) ?hr ?_; (case hd => rfl); (case hg => rfl); (case hr => first | (go_simp; done) | (go_simp; rfl)); intro gb287 hg w44 hbox hb; have n0_ := Aside0.mk (Kd.V_below (Kd.V_elderB (qV HO0.out) gb287 (Nat.le_of_eq hg.symm)) hb); have n1_ := Aside0.mk (below_step (qB HB.out) hb); have n2_ := Aside0.mk (hbox); have n3_ := Aside0.mk ((qs hg (below_size (qB HB.out)) : w.heap.size ≤ gb287)); have n4_ := Aside0.mk ((qs hg (below_size (qB HB.out)) : w.heap.size ≤ gb287)); clear HO0 HB; have HO0 := n0_; have HB := n1_; have BK287 := n2_; have GW287 := n3_; have GE287 := n4_; clear n0_ n1_ n2_ n3_ n4_ hb hbox hg) | ((with_reducible refine gate_callee (f := 12) rfl ?_); refine goesL_ (some 12) rfl rfl Tryz.func12 qr rfl #[.slice A0 l0.length c0] rfl qG ?_; (with_reducible refine (chicaneref14_Right.calls k _ _ l0 true _ ?side1 ?side2 A3.out).mono ?_); (case side1 => repeat (first | exact (Kd.V_reads' HO0.out).2.2 | (with_reducible refine Kd.C_alloc ?_ _) | (with_reducible refine Kd.C_drewN ?_ _) | (with_reducible refine Kd.C_drew ?_))); (case side2 => exact (Kd.V_reads' HO0.out).2.1); rintro e w45 ⟨rfl, hb⟩; refine ⟨_, rfl, ?_⟩; replace HO0 := Aside0.mk (Kd.V_below (qV HO0.out) hb); replace BK287 := Aside0.mk (blk_below (qK BK287.out) hb); replace HB := Aside0.mk (below_step (qB1 HB.out GE287.out) hb); (try clear hb); (try clear hb2); (try clear hk); (try clear hi); have hcz46 := qC11 BK287.out) | ((with_reducible refine gate_dst (N := 25) rfl ?_); refine Kd.N_lit k39 _ 39 ?hg (N' := 25) ?hd (xs := ([] : List (S39))) (inner := []) (ok := (fun k_ => (P0_ k_ ∨ w.heap.size ≤ k_) ∧ k_ ≠ gb287)) (okp := (fun k_ => (P0_ k_ ∨ w.heap.size ≤ k_) ∧ k_ ≠ gb287)) ?hr ?hp (fun _ hk => hk) ((show ∀ k_, w45.heap.size ≤ k_ → (fun k_ => (P0_ k_ ∨ w.heap.size ≤ k_) ∧ k_ ≠ gb287) k_ from fun k_ hk => ⟨(.inr (Nat.le_trans (below_size (qB1 HB.out GE287.out)) hk)), Kd.freshB (qK BK287.out) k_ hk⟩) _ (Nat.le_refl _)) (Below.refl _ _) (Nat.le_refl _) (by simp) ?_; (case hd => rfl); (case hg => rfl); (case hr => first | (go_simp; done) | (go_simp; rfl)); (case hp => exact (Reps.none _ _)); intro v294 w47 ho48 hb hg_ hnew_; clear hg_ hnew_; (first | rw [← Ny293.out] at ho48 | (simp only [Int.reduceToNat] at ho48; rw [← Ny293.out] at ho48)); replace HO0 := Aside0.mk (Kd.V_elder' (qV HO0.out) (Kd.N_base ho48) hb); have HO295 := Aside0.mk (Kd.N_lower ho48 (below_size (qB1 HB.out GE287.out))); replace BK287 := Aside0.mk (blk_below (qK BK287.out) hb); replace HB := Aside0.mk (below_step (qB1 HB.out GE287.out) hb); clear hb ho48) | ((with_reducible refine gate_builtin (b := .append) (xs := #[.tmp 25, .tmp 26]) rfl ?_); at_builtin; refine Kd.N_append_rows k39 (w0 := w) w.heap.size rfl (.tmp 25) (.tmp 26) 22 39 (.agg #[(.string ⟨#[]⟩), (.bool false), (.int .i64 0), (.slice none 0 0)]) 56 rfl Tryz.underlying22 info39 rfl (by decide) (by omega) v294 y293 l0 _ _ _ (fun k_ => (P0_ k_ ∨ w.heap.size ≤ k_) ∧ k_ ≠ gb287) (fun k_ => ((fun k_ => (P0_ k_ ∨ w.heap.size ≤ k_) ∧ k_ ≠ gb287)) k_ ∧ some k_ ≠ (v294 : Value).ownBlock) rfl rfl ?aO ?aR (fun _ hk => hk) ?aF ?aB ?aS ?aL ?_; (case aR => exact (by skip; exact Kd.V_F (Kd.V_mono (ok' := (fun k_ => ((fun k_ => (P0_ k_ ∨ w.heap.size ≤ k_) ∧ k_ ≠ gb287)) k_ ∧ some k_ ≠ (v294 : Value).ownBlock)) (HO0.out) (fun k_ hk => ⟨⟨hk.1.1, hk.1.2⟩, hk.2⟩)))); (case aB => exact (qB1 HB.out GE287.out)); (case aF => exact (fun k_ hk => ⟨(.inr (Nat.le_trans (below_size (qB1 HB.out GE287.out)) hk)), Kd.freshB (qK BK287.out) k_ hk⟩)); (case aO => exact (qN HO295.out)); (case aS => exact (below_size (qB1 HB.out GE287.out))); (case aL => have := LMc11.out; omega); intro v297 w49 ho hb hg hat; rw [← Ny296.out] at ho; replace HO0 := Aside0.mk (Kd.V_afterv (ok := (fun k_ => (P0_ k_ ∨ w.heap.size ≤ k_) ∧ k_ ≠ gb287)) (by (with_reducible repeat (first | apply Kd.V_alloc | apply Kd.V_drewN | apply Kd.V_drew)); (first | exact HO0.out | exact Kd.V_mono HO0.out (fun _ hk => ⟨⟨hk.1, hk.2.2⟩, hk.2.1⟩))) hg hat); replace BK287 := Aside0.mk (blk_grown (qK BK287.out) hg (Kd.N_ne HO295.out BK287.out (by decide))); replace HB := Aside0.mk (hb); have HO298 := Aside0.mk (ho); clear HO295 ho hb hg hat; have hcz50 := qC11 BK287.out) | ((with_reducible refine gate_callee (f := 14) rfl ?_); refine goesL_ (some 55) rfl rfl Tryz.func14 qr rfl #[.slice A0 l0.length c0, .string a1_2] rfl qG ?_; (with_reducible refine (chicaneref14_Find.calls k _ _ l0 a1_2 t302 _ ?side1 ?side2 A27.out).mono ?_); (case side1 => repeat (first | exact (Kd.V_reads' HO0.out).2.2 | (with_reducible refine Kd.C_alloc ?_ _) | (with_reducible refine Kd.C_drewN ?_ _) | (with_reducible refine Kd.C_drew ?_))); (case side2 => exact (Kd.V_reads' HO0.out).2.1); rintro e w' ⟨rfl, ⟨nd, rfl⟩⟩; refine ⟨_, rfl, ?_⟩))
             (try (rw [drewN_self w49]; generalize hq_ : World.drewN w49 _ = w49; replace HO0 : Aside0 (Kd.V k39 39 w49 w.heap.size (fun k_ => (P0_ k_ ∨ w.heap.size ≤ k_) ∧ some k_ ≠ (v297 : Value).ownBlock ∧ k_ ≠ gb287) (.slice A0 l0.length c0) l0) := ⟨by rw [← hq_]; exact (qV (Kd.V_mono HO0.out (fun _ hk => ⟨hk.1.1, ⟨hk.2, hk.1.2⟩⟩)))⟩; replace HO298 : Aside0 (Kd.N k39 39 w49 w.heap.size (fun k_ => (P0_ k_ ∨ w.heap.size ≤ k_) ∧ k_ ≠ gb287) v297 y296) := ⟨by rw [← hq_]; exact (qN HO298.out)⟩; replace BK287 : Aside0 (w49.heap[gb287]? = some (.cells #[.int .i64 a1_0, .int .i64 a1_1, .string a1_2, .string a1_3, .bool a1_4, .string a1_5, .int .i64 a1_6, .bool a1_7, .int .i64 a1_8, .int .i64 a1_9, .int .i64 a1_10] 26 (0, 0))) := ⟨by rw [← hq_]; exact (qK BK287.out)⟩; replace HB : Aside0 (Below w.heap.size w w49) := ⟨by rw [← hq_]; exact (qB1 HB.out GE287.out)⟩; clear hq_))
             replace HO0 := Aside0.mk (Kd.V_drew HO0.out)
             replace HO298 := Aside0.mk (Kd.N_drew HO298.out)
             replace BK287 := Aside0.mk (blk_drew BK287.out)
             replace HB := Aside0.mk (below_drew1 HB.out)
             have q52 : (t302 : Int) ≤ ((l0.length : Int) : Int) := of_decide_eq_true qA
             obtain ⟨i052, hi052, _, hsz52, _⟩ := info_parts info39
             have hroom52 : l0.length ≤ c0 := (Kd.V_reads' HO0.out).2.1
             have hC52 : Kd.F k39 _ _ A0 l0.length l0 := (Kd.V_at (base := w.heap.size) HO0.out).2.2
             have hcut52 := cut_to (P := Tryz.prog) 22 39 .i64 Tryz.underlying22 hi052 A0 l0.length c0 t302 (of_decide_eq_true qA) q52 hroom52
             have hr52 := Kd.F_take (m := (t302 : Int).toNat) hC52 (by omega)
             have hy52 : y306.length = (t302 : Int).toNat := (by rw [Ny306.out, List.length_take]; omega)
             rw [← Ny306.out] at hr52
             rw [← hy52] at hcut52
             have HO310 := Aside0.mk (show Kd.V k39 39 _ w.heap.size _ (.slice A0 y306.length c0) y306 from Kd.V_mk (by omega) hr52)
             have HC310 := Aside0.mk (show y306.length ≤ c0 from by omega)
             clear hr52 hC52 hroom52 hi052 hsz52
             have KY52 := Aside0.mk hy52
             clear hy52
             replace q52 := eq_true q52
             have q53 : ((ji40) : Int) ≤ ((l0.length : Int) : Int) := of_decide_eq_true qA
             obtain ⟨i053, hi053, _, hsz53, _⟩ := info_parts info39
             have hroom53 : l0.length ≤ c0 := (Kd.V_reads' HO0.out).2.1
             have hC53 : Kd.F k39 _ _ A0 l0.length l0 := (Kd.V_at (base := w.heap.size) HO0.out).2.2
             have q053 : (0 : Int) ≤ ((ji40) : Int) := of_decide_eq_true qA
             have hcut53 := cut_from (P := Tryz.prog) 22 39 .i64 Tryz.underlying22 hi053 4 hsz53 A0 l0.length c0 (ji40) q053 q53
             have hr53 := Kd.F_cut (m := ((ji40) : Int).toNat) (c := c0) hC53 (by omega) hroom53
             obtain ⟨A53, hA53⟩ : ∃ A1, A1 = (if c0 = ((ji40) : Int).toNat then A0 else (A0 : Option Addr).map (·.add (((ji40) : Int).toNat * 4))) := ⟨_, rfl⟩
             obtain ⟨c53, hc53⟩ : ∃ c1, c1 = c0 - ((ji40) : Int).toNat := ⟨_, rfl⟩
             have hy53 : y314.length = l0.length - ((ji40) : Int).toNat := (by rw [Ny314.out, List.length_drop] <;> omega)
             rw [show (l0).drop ((ji40) : Int).toNat = y314 from Ny314.out.symm] at hr53
             replace hr53 : Kd.F k39 _ _ A53 y314.length y314 := (by rw [hA53]; exact hr53)
             rw [← hy53, ← hA53, ← hc53] at hcut53
             have HO318 := Aside0.mk (show Kd.V k39 39 _ w.heap.size _ (.slice A53 y314.length c53) y314 from Kd.V_mk (by rw [hy53, hc53]; exact Nat.sub_le_sub_right hroom53 _) hr53)
             have HC318 := Aside0.mk (show y314.length ≤ c53 from by rw [hy53, hc53]; exact Nat.sub_le_sub_right hroom53 _)
             clear hr53 hC53 hroom53 hi053 hsz53 hc53
             have KY53 := Aside0.mk hy53
             have KA53 := Aside0.mk hA53
             clear hy53 hA53
             replace q53 := eq_true q53
             refine start_ (n := 12) (S := fun w' => True) (ds := []) #[false, false, false, false, false, false, false, false, false, false, false, false] qr rfl rfl trivial (fun hHeld => ?_); refine with_tabW chicaneref14_Do.tab18 chicaneref14_Do.bits18 (fun HT_ HW_ => ?_)
             generalize w49.drew = w51 at HO0 HO298 BK287 HB HO310 HO318 hHeld ⊢
             refine qP (i := 1) (N := some 63) HT_.out ?_
             refine qP (i := 2) (N := some 64) HT_.out ?_
             refine qP (i := 3) (N := some 65) HT_.out ?_
             refine qP (i := 5) (N := some 67) HT_.out ?_
             refine qP (i := 6) (N := some 68) HT_.out ?_
             refine qP (i := 7) (N := some 69) HT_.out ?_
             refine qP (i := 8) (N := some 70) HT_.out ?_
             refine qO (i := 0) (N := some 62) HT_.out (fun K hK => ?_)
             refine Kd.N_lit_step k39 _ 39 ?hg (N' := 62) ?hd (xs := ([] : List (S39))) (inner := []) (ok := (fun k_ => (P0_ k_ ∨ w.heap.size ≤ k_) ∧ some k_ ≠ (v297 : Value).ownBlock ∧ k_ ≠ gb287)) (okp := (fun k_ => (P0_ k_ ∨ w.heap.size ≤ k_) ∧ some k_ ≠ (v297 : Value).ownBlock ∧ k_ ≠ gb287)) ?hr ?hp (fun _ hk => hk) ((show ∀ k_, w51.heap.size ≤ k_ → (fun k_ => (P0_ k_ ∨ w.heap.size ≤ k_) ∧ some k_ ≠ (v297 : Value).ownBlock ∧ k_ ≠ gb287) k_ from fun k_ hk => ⟨(.inr (Nat.le_trans (below_size (qB1 HB.out GE287.out)) hk)), Kd.fresh' (Kd.N_lt (qN HO298.out)) k_ hk, Kd.freshB (qK BK287.out) k_ hk⟩) _ (Nat.le_refl _)) (Below.refl _ _) (Nat.le_refl _) (by simp) ?_; (case hd => rfl); (case hg => rfl); (case hr => first | (go_simp; done) | (go_simp; rfl)); (case hp => exact (Reps.none _ _))
             intro v304 w54 ho55 hb hg_ hnew_
             clear hg_ hnew_
             (first | rw [← Ny303.out] at ho55 | (simp only [Int.reduceToNat] at ho55; rw [← Ny303.out] at ho55))
             replace HO0 := Aside0.mk (Kd.V_elder' (qV HO0.out) (Kd.N_base ho55) hb)
             replace HO298 := Aside0.mk (Kd.N_elder' (qN HO298.out) (Kd.N_base ho55) hb)
             replace HO310 := Aside0.mk (Kd.V_elder' (qV HO310.out) (Kd.N_base ho55) hb)
             replace HO318 := Aside0.mk (Kd.V_elder' (qV HO318.out) (Kd.N_base ho55) hb)
             have HO305 := Aside0.mk (Kd.N_lower ho55 (below_size (qB1 HB.out GE287.out)))
             replace BK287 := Aside0.mk (blk_below (qK BK287.out) hb)
             replace HB := Aside0.mk (below_step (qB1 HB.out GE287.out) hb)
             clear hb ho55
             refine hK.out _ _ trivial (fun hHeld => ?_)
             clear hK K
             refine qM (N := some 62) ?_
             refine qO (i := 4) (N := some 66) HT_.out (fun K hK => ?_)
             refine Kd.N_append_rows_step k39 (w0 := w) w.heap.size (by rfl) (.tmp 62) (.tmp 65) 22 39 (.agg #[(.string ⟨#[]⟩), (.bool false), (.int .i64 0), (.slice none 0 0)]) 56 rfl Tryz.underlying22 info39 rfl (by decide) (by omega) v304 y303 y306 _ _ _ (fun k_ => (P0_ k_ ∨ w.heap.size ≤ k_) ∧ some k_ ≠ (v297 : Value).ownBlock ∧ k_ ≠ gb287) (fun k_ => ((fun k_ => (P0_ k_ ∨ w.heap.size ≤ k_) ∧ some k_ ≠ (v297 : Value).ownBlock ∧ k_ ≠ gb287)) k_ ∧ some k_ ≠ (v304 : Value).ownBlock) rfl rfl ?aO ?aR (fun _ hk => hk) ?aF ?aB ?aS ?aL ?_
             (case aR => exact (by skip; exact Kd.V_F (Kd.V_mono (ok' := (fun k_ => ((fun k_ => (P0_ k_ ∨ w.heap.size ≤ k_) ∧ some k_ ≠ (v297 : Value).ownBlock ∧ k_ ≠ gb287)) k_ ∧ some k_ ≠ (v304 : Value).ownBlock)) (HO310.out) (fun k_ hk => ⟨⟨hk.1.1, ⟨hk.1.2.1, hk.1.2.2⟩⟩, hk.2⟩))))
             (case aB => exact (qB1 HB.out GE287.out))
             (case aF => exact (fun k_ hk => ⟨(.inr (Nat.le_trans (below_size (qB1 HB.out GE287.out)) hk)), Kd.fresh' (Kd.N_lt (qN HO298.out)) k_ hk, Kd.freshB (qK BK287.out) k_ hk⟩))
             (case aO => exact (qN HO305.out))
             (case aS => exact (below_size (qB1 HB.out GE287.out)))
             (case aL => have := LMc39.out; omega)
             intro v312 w56 ho hb hg hat
             rw [← Ny311.out] at ho
             replace HO0 := Aside0.mk (Kd.V_afterv (ok := (fun k_ => (P0_ k_ ∨ w.heap.size ≤ k_) ∧ some k_ ≠ (v297 : Value).ownBlock ∧ k_ ≠ gb287)) (qV (Kd.V_mono HO0.out (fun _ hk => ⟨⟨hk.1.1, ⟨hk.1.2.1, hk.1.2.2⟩⟩, hk.2⟩))) hg hat)
             replace BK287 := Aside0.mk (blk_grown (qK BK287.out) hg (Kd.N_ne HO305.out BK287.out (by decide)))
             replace HO298 := Aside0.mk (Kd.N_afterv (ok := (fun k_ => (P0_ k_ ∨ w.heap.size ≤ k_) ∧ k_ ≠ gb287)) (qN HO298.out) hg hat)
             replace HO310 := Aside0.mk (Kd.V_afterv (ok := (fun k_ => (P0_ k_ ∨ w.heap.size ≤ k_) ∧ some k_ ≠ (v297 : Value).ownBlock ∧ k_ ≠ gb287)) (qV (Kd.V_mono HO310.out (fun _ hk => ⟨⟨hk.1.1, ⟨hk.1.2.1, hk.1.2.2⟩⟩, hk.2⟩))) hg hat)
             replace HO318 := Aside0.mk (Kd.V_afterv (ok := (fun k_ => (P0_ k_ ∨ w.heap.size ≤ k_) ∧ some k_ ≠ (v297 : Value).ownBlock ∧ k_ ≠ gb287)) (qV (Kd.V_mono HO318.out (fun _ hk => ⟨⟨hk.1.1, ⟨hk.1.2.1, hk.1.2.2⟩⟩, hk.2⟩))) hg hat)
             replace HB := Aside0.mk (hb)
             have HO313 := Aside0.mk (ho)
             clear HO305 ho hb hg hat
             refine hK.out _ _ trivial (fun hHeld => ?_)
             clear hK K
             refine qM (N := some 66) ?_
             refine qO (i := 9) (N := some 71) HT_.out (fun K hK => ?_)
             refine Kd.N_append_rows_step k39 (w0 := w) w.heap.size (by rfl) (.tmp 66) (.tmp 70) 22 39 (.agg #[(.string ⟨#[]⟩), (.bool false), (.int .i64 0), (.slice none 0 0)]) 56 rfl Tryz.underlying22 info39 rfl (by decide) (by omega) v312 y311 y314 _ _ _ (fun k_ => (P0_ k_ ∨ w.heap.size ≤ k_) ∧ some k_ ≠ (v297 : Value).ownBlock ∧ k_ ≠ gb287) (fun k_ => ((fun k_ => (P0_ k_ ∨ w.heap.size ≤ k_) ∧ some k_ ≠ (v297 : Value).ownBlock ∧ k_ ≠ gb287)) k_ ∧ some k_ ≠ (v312 : Value).ownBlock) rfl rfl ?aO ?aR (fun _ hk => hk) ?aF ?aB ?aS ?aL ?_
             (case aR => exact (by skip; exact Kd.V_F (Kd.V_mono (ok' := (fun k_ => ((fun k_ => (P0_ k_ ∨ w.heap.size ≤ k_) ∧ some k_ ≠ (v297 : Value).ownBlock ∧ k_ ≠ gb287)) k_ ∧ some k_ ≠ (v312 : Value).ownBlock)) (HO318.out) (fun k_ hk => ⟨⟨hk.1.1, ⟨hk.1.2.1, hk.1.2.2⟩⟩, hk.2⟩))))
             (case aB => exact (qB1 HB.out GE287.out))
             (case aF => exact (fun k_ hk => ⟨(.inr (Nat.le_trans (below_size (qB1 HB.out GE287.out)) hk)), Kd.fresh' (Kd.N_lt (qN HO298.out)) k_ hk, Kd.freshB (qK BK287.out) k_ hk⟩))
             (case aO => exact (qN HO313.out))
             (case aS => exact (below_size (qB1 HB.out GE287.out)))
             (case aL => have := LMc43.out; omega)
             intro v320 w57 ho hb hg hat
             rw [← Ny319.out] at ho
             replace HO0 := Aside0.mk (Kd.V_afterv (ok := (fun k_ => (P0_ k_ ∨ w.heap.size ≤ k_) ∧ some k_ ≠ (v297 : Value).ownBlock ∧ k_ ≠ gb287)) (by (with_reducible repeat (first | apply Kd.V_alloc | apply Kd.V_drewN | apply Kd.V_drew)); (first | exact HO0.out | exact Kd.V_mono HO0.out (fun _ hk => ⟨⟨hk.1, hk.2.2⟩, hk.2.1⟩))) hg hat)
             replace BK287 := Aside0.mk (blk_grown (qK BK287.out) hg (Kd.N_ne HO313.out BK287.out (by decide)))
             replace HO298 := Aside0.mk (Kd.N_afterv (ok := (fun k_ => (P0_ k_ ∨ w.heap.size ≤ k_) ∧ k_ ≠ gb287)) (qN HO298.out) hg hat)
             replace HO310 := Aside0.mk (Kd.V_afterv (ok := (fun k_ => (P0_ k_ ∨ w.heap.size ≤ k_) ∧ some k_ ≠ (v297 : Value).ownBlock ∧ k_ ≠ gb287)) (by (with_reducible repeat (first | apply Kd.V_alloc | apply Kd.V_drewN | apply Kd.V_drew)); (first | exact HO310.out | exact Kd.V_mono HO310.out (fun _ hk => ⟨⟨hk.1, hk.2.2⟩, hk.2.1⟩))) hg hat)
             replace HO318 := Aside0.mk (Kd.V_afterv (ok := (fun k_ => (P0_ k_ ∨ w.heap.size ≤ k_) ∧ some k_ ≠ (v297 : Value).ownBlock ∧ k_ ≠ gb287)) (by (with_reducible repeat (first | apply Kd.V_alloc | apply Kd.V_drewN | apply Kd.V_drew)); (first | exact HO318.out | exact Kd.V_mono HO318.out (fun _ hk => ⟨⟨hk.1, hk.2.2⟩, hk.2.1⟩))) hg hat)
             replace HB := Aside0.mk (hb)
             have HO321 := Aside0.mk (ho)
             clear HO313 ho hb hg hat
             refine hK.out _ _ trivial (fun hHeld => ?_)
             clear hK K
             refine qM (N := some 71) ?_
             refine qP (i := 10) (N := some 4) HT_.out ?_
             refine qP (i := 11) (N := some 5) HT_.out ?_
             refine done_ (done_of HT_.out qr) ?_
             try go_wp2
             go_ret2
             exact ⟨_, by first | rfl | (simp [errW_none, errW_some] <;> rfl) | (simp only [← hji40]; first | rfl | (simp [errW_none, errW_some] <;> rfl)) | (simp [*, errW_none, errW_some] <;> rfl), Kd.N_V (qN (Kd.N_mono HO321.out (fun _ hk => hk.1))), by repeat (first | (with_reducible first | exact HB.out | apply below_alloc | apply pw_below_drewN | apply below_drew1 | refine below_set ?_ GE287.out) | exact HB.out)⟩
            ·rw [if_neg c43] at H
             exact absurd H (by simp)
           ·rw [if_neg c42] at H
            exact absurd H (by simp)
          ·rw [if_neg c41] at H
           exact absurd H (by simp)
         ·rw [if_neg c39] at H
          exact absurd H (by simp)
        ·rw [if_neg c38] at H
         exact absurd H (by simp)
       ·rw [if_neg c37] at H
        exact absurd H (by simp)
      ·rw [if_neg c36] at H
       have c36b0 : (a1_0 == 1) = false := beq_eq_false_iff_ne.mpr c36
       have c36b1 : (a1_0 != 1) = true := bne_iff_ne.mpr c36
       by_cases c58 : a1_0 = 2
       ·rw [if_pos c58] at H
        have c58b0 : (a1_0 == 2) = true := beq_iff_eq.mpr c58
        have c58b1 : (a1_0 != 2) = false := bne_eq_false_iff_eq.mpr c58
        clear c58
        by_cases c59 : 0 ≤ t302
        ·rw [if_pos c59] at H
         have c59b0 : decide (0 ≤ t302) = true := decide_eq_true c59
         clear c59
         by_cases c60 : t302 < (y296.length : Int)
         ·rw [if_pos c60] at H
          have c60b0 : decide (t302 < (y296.length : Int)) = true := decide_eq_true c60
          clear c60
          obtain ⟨y322, hy322⟩ : ∃ y_ : List (S39), y_ = (y296.set (t302 : Int).toNat (⟨(rd_T39 y296 t302).f0, a1_4, (rd_T39 y296 t302).f2, (rd_T39 y296 t302).f3⟩ : S39)) := ⟨_, rfl⟩
          replace H : (some (y322, 0)) = some (r1, r2) := by first | (rw [hy322]; with_reducible exact H) | (have H2_ := (Option.bind_some _ _).symm.trans H; rw [hy322]; with_reducible exact H2_) | (have H2_ := (Option.bind_some _ _).symm.trans H; with_reducible exact H2_) | with_reducible exact H | (rw [hy322]; exact H) | exact H
          have Ny322 := Aside0.mk hy322
          clear hy322
          simp only [Option.some.injEq, Prod.mk.injEq] at H
          obtain ⟨rfl, rfl⟩ := H
          go_enter Tryz.func10, Tryz.ntmps10
          go_wp2_with (first | ((with_reducible refine gate_dst (N := 3) rfl ?_); refine box_event ?hg (N := 3) ?hd (cs := #[.int .i64 a1_0, .int .i64 a1_1, .string a1_2, .string a1_3, .bool a1_4, .string a1_5, .int .i64 a1_6, .bool a1_7, .int .i64 a1_8, .int .i64 a1_9, .int .i64 a1_10]) (t := 26) ?hr ?_; (case hd => rfl); (case hg => rfl); (case hr => first | (go_simp; done) | (go_simp; rfl)); intro gb287 hg w62 hbox hb; have n0_ := Aside0.mk (Kd.V_below (Kd.V_elderB (qV HO0.out) gb287 (Nat.le_of_eq hg.symm)) hb); have n1_ := Aside0.mk (below_step (qB HB.out) hb); have n2_ := Aside0.mk (hbox); have n3_ := Aside0.mk ((qs hg (below_size (qB HB.out)) : w.heap.size ≤ gb287)); have n4_ := Aside0.mk ((qs hg (below_size (qB HB.out)) : w.heap.size ≤ gb287)); clear HO0 HB; have HO0 := n0_; have HB := n1_; have BK287 := n2_; have GW287 := n3_; have GE287 := n4_; clear n0_ n1_ n2_ n3_ n4_ hb hbox hg) | ((with_reducible refine gate_callee (f := 12) rfl ?_); refine goesL_ (some 12) rfl rfl Tryz.func12 qr rfl #[.slice A0 l0.length c0] rfl qG ?_; (with_reducible refine (chicaneref14_Right.calls k _ _ l0 true _ ?side1 ?side2 A3.out).mono ?_); (case side1 => repeat (first | exact (Kd.V_reads' HO0.out).2.2 | (with_reducible refine Kd.C_alloc ?_ _) | (with_reducible refine Kd.C_drewN ?_ _) | (with_reducible refine Kd.C_drew ?_))); (case side2 => exact (Kd.V_reads' HO0.out).2.1); rintro e w63 ⟨rfl, hb⟩; refine ⟨_, rfl, ?_⟩; replace HO0 := Aside0.mk (Kd.V_below (qV HO0.out) hb); replace BK287 := Aside0.mk (blk_below (qK BK287.out) hb); replace HB := Aside0.mk (below_step (qB1 HB.out GE287.out) hb); (try clear hb); (try clear hb2); (try clear hk); (try clear hi); have hcz64 := qC11 BK287.out) | ((with_reducible refine gate_dst (N := 25) rfl ?_); refine Kd.N_lit k39 _ 39 ?hg (N' := 25) ?hd (xs := ([] : List (S39))) (inner := []) (ok := (fun k_ => (P0_ k_ ∨ w.heap.size ≤ k_) ∧ k_ ≠ gb287)) (okp := (fun k_ => (P0_ k_ ∨ w.heap.size ≤ k_) ∧ k_ ≠ gb287)) ?hr ?hp (fun _ hk => hk) ((show ∀ k_, w63.heap.size ≤ k_ → (fun k_ => (P0_ k_ ∨ w.heap.size ≤ k_) ∧ k_ ≠ gb287) k_ from fun k_ hk => ⟨(.inr (Nat.le_trans (below_size (qB1 HB.out GE287.out)) hk)), Kd.freshB (qK BK287.out) k_ hk⟩) _ (Nat.le_refl _)) (Below.refl _ _) (Nat.le_refl _) (by simp) ?_; (case hd => rfl); (case hg => rfl); (case hr => first | (go_simp; done) | (go_simp; rfl)); (case hp => exact (Reps.none _ _)); intro v294 w65 ho66 hb hg_ hnew_; clear hg_ hnew_; (first | rw [← Ny293.out] at ho66 | (simp only [Int.reduceToNat] at ho66; rw [← Ny293.out] at ho66)); replace HO0 := Aside0.mk (Kd.V_elder' (qV HO0.out) (Kd.N_base ho66) hb); have HO295 := Aside0.mk (Kd.N_lower ho66 (below_size (qB1 HB.out GE287.out))); replace BK287 := Aside0.mk (blk_below (qK BK287.out) hb); replace HB := Aside0.mk (below_step (qB1 HB.out GE287.out) hb); clear hb ho66) | ((with_reducible refine gate_builtin (b := .append) (xs := #[.tmp 25, .tmp 26]) rfl ?_); at_builtin; refine Kd.N_append_rows k39 (w0 := w) w.heap.size rfl (.tmp 25) (.tmp 26) 22 39 (.agg #[(.string ⟨#[]⟩), (.bool false), (.int .i64 0), (.slice none 0 0)]) 56 rfl Tryz.underlying22 info39 rfl (by decide) (by omega) v294 y293 l0 _ _ _ (fun k_ => (P0_ k_ ∨ w.heap.size ≤ k_) ∧ k_ ≠ gb287) (fun k_ => ((fun k_ => (P0_ k_ ∨ w.heap.size ≤ k_) ∧ k_ ≠ gb287)) k_ ∧ some k_ ≠ (v294 : Value).ownBlock) rfl rfl ?aO ?aR (fun _ hk => hk) ?aF ?aB ?aS ?aL ?_; (case aR => exact (by skip; exact Kd.V_F (Kd.V_mono (ok' := (fun k_ => ((fun k_ => (P0_ k_ ∨ w.heap.size ≤ k_) ∧ k_ ≠ gb287)) k_ ∧ some k_ ≠ (v294 : Value).ownBlock)) (HO0.out) (fun k_ hk => ⟨⟨hk.1.1, hk.1.2⟩, hk.2⟩)))); (case aB => exact (qB1 HB.out GE287.out)); (case aF => exact (fun k_ hk => ⟨(.inr (Nat.le_trans (below_size (qB1 HB.out GE287.out)) hk)), Kd.freshB (qK BK287.out) k_ hk⟩)); (case aO => exact (qN HO295.out)); (case aS => exact (below_size (qB1 HB.out GE287.out))); (case aL => have := LMc11.out; omega); intro v297 w67 ho hb hg hat; rw [← Ny296.out] at ho; replace HO0 := Aside0.mk (Kd.V_afterv (ok := (fun k_ => (P0_ k_ ∨ w.heap.size ≤ k_) ∧ k_ ≠ gb287)) (by (with_reducible repeat (first | apply Kd.V_alloc | apply Kd.V_drewN | apply Kd.V_drew)); (first | exact HO0.out | exact Kd.V_mono HO0.out (fun _ hk => ⟨⟨hk.1, hk.2.2⟩, hk.2.1⟩))) hg hat); replace BK287 := Aside0.mk (blk_grown (qK BK287.out) hg (Kd.N_ne HO295.out BK287.out (by decide))); replace HB := Aside0.mk (hb); have HO298 := Aside0.mk (ho); clear HO295 ho hb hg hat; have hcz68 := qC11 BK287.out) | ((with_reducible refine gate_callee (f := 14) rfl ?_); refine goesL_ (some 55) rfl rfl Tryz.func14 qr rfl #[.slice A0 l0.length c0, .string a1_2] rfl qG ?_; (with_reducible refine (chicaneref14_Find.calls k _ _ l0 a1_2 t302 _ ?side1 ?side2 A27.out).mono ?_); (case side1 => repeat (first | exact (Kd.V_reads' HO0.out).2.2 | (with_reducible refine Kd.C_alloc ?_ _) | (with_reducible refine Kd.C_drewN ?_ _) | (with_reducible refine Kd.C_drew ?_))); (case side2 => exact (Kd.V_reads' HO0.out).2.1); rintro e w' ⟨rfl, ⟨nd, rfl⟩⟩; refine ⟨_, rfl, ?_⟩; (try (rw [drewN_self w67]; generalize hq_ : World.drewN w67 _ = w67; replace HO0 : Aside0 (Kd.V k39 39 w67 w.heap.size (fun k_ => (P0_ k_ ∨ w.heap.size ≤ k_) ∧ some k_ ≠ (v297 : Value).ownBlock ∧ k_ ≠ gb287) (.slice A0 l0.length c0) l0) := ⟨by rw [← hq_]; exact (qV (Kd.V_mono HO0.out (fun _ hk => ⟨hk.1.1, ⟨hk.2, hk.1.2⟩⟩)))⟩; replace HO298 : Aside0 (Kd.N k39 39 w67 w.heap.size (fun k_ => (P0_ k_ ∨ w.heap.size ≤ k_) ∧ k_ ≠ gb287) v297 y296) := ⟨by rw [← hq_]; exact (qN HO298.out)⟩; replace BK287 : Aside0 (w67.heap[gb287]? = some (.cells #[.int .i64 a1_0, .int .i64 a1_1, .string a1_2, .string a1_3, .bool a1_4, .string a1_5, .int .i64 a1_6, .bool a1_7, .int .i64 a1_8, .int .i64 a1_9, .int .i64 a1_10] 26 (0, 0))) := ⟨by rw [← hq_]; exact (qK BK287.out)⟩; replace HB : Aside0 (Below w.heap.size w w67) := ⟨by rw [← hq_]; exact (qB1 HB.out GE287.out)⟩; clear hq_)); have p61 : 0 ≤ (t302 : Int) := of_decide_eq_true qA; have q61 : (t302 : Int) < ((y296.length : Int) : Int) := of_decide_eq_true qA; obtain ⟨go61, co61, eo61, gb61, gl61, cl61, HG61⟩ := Kd.N_form HO298.out (by omega); (first | cases eo61 | (injection eo61 with ea_ en_ ec_; (first | subst ea_ | (injection ea_ with ea_; subst ea_)); subst ec_; clear en_)); have GB61 := Aside0.mk gb61; have GG61 := Aside0.mk HG61; clear gb61 gl61 HG61; obtain ⟨ce61, hcl61, hM61, hcc61, hfr61⟩ := Kd.N_elem HO298.out z39 (t302 : Int) p61 q61; obtain ⟨ua61_3, uc61_3, rfl, ul61_3, ge61_3⟩ := k39_openF hM61; have hx61_0 : w67.cell? ⟨go61, (t302 : Int).toNat * 4, none⟩ = some (.string ((rd_T39 y296 t302).f0)) := hcc61 0 _ rfl; have hx61_1 : w67.cell? ⟨go61, (t302 : Int).toNat * 4 + 1, none⟩ = some (.bool ((rd_T39 y296 t302).f1)) := hcc61 1 _ rfl; have hx61_2 : w67.cell? ⟨go61, (t302 : Int).toNat * 4 + 2, none⟩ = some (.int .i64 ((rd_T39 y296 t302).f2)) := hcc61 2 _ rfl; have hx61_3 : w67.cell? ⟨go61, (t302 : Int).toNat * 4 + 3, none⟩ = some (.slice ua61_3 ((rd_T39 y296 t302).f3).length uc61_3) := hcc61 3 _ rfl; have hf61_0 : w67.frozen? ⟨go61, (t302 : Int).toNat * 4, none⟩ = false := hfr61 0; have hf61_1 : w67.frozen? ⟨go61, (t302 : Int).toNat * 4 + 1, none⟩ = false := hfr61 1; have hf61_2 : w67.frozen? ⟨go61, (t302 : Int).toNat * 4 + 2, none⟩ = false := hfr61 2; have hf61_3 : w67.frozen? ⟨go61, (t302 : Int).toNat * 4 + 3, none⟩ = false := hfr61 3; clear hcl61 hcc61 hfr61 hM61; replace p61 := eq_true p61; replace q61 := eq_true q61; have HX69 := Aside0.mk (show Kd.N k39 39 w67 w.heap.size (fun k_ => (P0_ k_ ∨ w.heap.size ≤ k_) ∧ k_ ≠ gb287) (.slice (some ⟨go61, 0, none⟩) y296.length co61) y296 from (qN HO298.out)); obtain ⟨ce69, hcl69, hM69, hcc69, hfr69⟩ := Kd.N_elem HX69.out z39 (t302 : Int) (of_decide_eq_true qA) (by have h_ : (t302 : Int) < ((y296.length : Int) : Int) := of_decide_eq_true qA; first | exact h_ | (have e_ := (Kd.N_reads' HO298.out).1; omega) | simpa using h_); obtain ⟨ua69_3, uc69_3, rfl, ul69_3, ge69_3⟩ := k39_openF hM69; have HP69 := Kd.N_seg HX69.out (t302 : Int) (of_decide_eq_true qA) (by have h_ : (t302 : Int) < ((y296.length : Int) : Int) := of_decide_eq_true qA; first | exact h_ | (have e_ := (Kd.N_reads' HO298.out).1; omega) | simpa using h_) (seg := [.bool a1_4]) (j := 1) hcl69 hcc69 (show 2 ≤ 4 from by decide) (x' := (⟨(rd_T39 y296 t302).f0, a1_4, (rd_T39 y296 t302).f2, (rd_T39 y296 t302).f3⟩ : S39)) (k39_mkF _ _ (⟨(rd_T39 y296 t302).f0, a1_4, (rd_T39 y296 t302).f2, (rd_T39 y296 t302).f3⟩ : S39) ul69_3 ge69_3) (fun _ hk => hk); have hx69_1 := hcc69 1 _ rfl; (try simp only [show (k39).sz = 4 from rfl, Nat.mul_one, Nat.add_zero] at hx69_1); have hf69_1 := hfr69 1; (try simp only [show (k39).sz = 4 from rfl, Nat.mul_one, Nat.add_zero] at hf69_1); clear hcl69 hcc69 hfr69 hM69; have hq0_ : w67.cell? ⟨gb287, 0, none⟩ = some (.int .i64 a1_0) := (blk_cell BK287.out 0).trans rfl; have hq1_ : w67.cell? ⟨gb287, 1, none⟩ = some (.int .i64 a1_1) := (blk_cell BK287.out 1).trans rfl; have hq2_ : w67.cell? ⟨gb287, 2, none⟩ = some (.string a1_2) := (blk_cell BK287.out 2).trans rfl; have hq3_ : w67.cell? ⟨gb287, 3, none⟩ = some (.string a1_3) := (blk_cell BK287.out 3).trans rfl; have hq4_ : w67.cell? ⟨gb287, 4, none⟩ = some (.bool a1_4) := (blk_cell BK287.out 4).trans rfl; have hq5_ : w67.cell? ⟨gb287, 5, none⟩ = some (.string a1_5) := (blk_cell BK287.out 5).trans rfl; have hq6_ : w67.cell? ⟨gb287, 6, none⟩ = some (.int .i64 a1_6) := (blk_cell BK287.out 6).trans rfl; have hq7_ : w67.cell? ⟨gb287, 7, none⟩ = some (.bool a1_7) := (blk_cell BK287.out 7).trans rfl; have hq8_ : w67.cell? ⟨gb287, 8, none⟩ = some (.int .i64 a1_8) := (blk_cell BK287.out 8).trans rfl; have hq9_ : w67.cell? ⟨gb287, 9, none⟩ = some (.int .i64 a1_9) := (blk_cell BK287.out 9).trans rfl; have hq10_ : w67.cell? ⟨gb287, 10, none⟩ = some (.int .i64 a1_10) := (blk_cell BK287.out 10).trans rfl) | ((with_reducible refine gate_store (t := 4) (p := 80) rfl ?_); refine store_event (t := 4) (p := 80) (v := ?vo_w70) (w1 := (w67.setCell ⟨go61, (t302 : Int).toNat * 4 + 1, none⟩ (.bool a1_4))) ?hg ?ho ?hn ?hr ?_; (case ho => rfl); (case hg => rfl); (case hn => rfl); (case hr => first | (go_simp; done) | (go_simp; rfl)); intro w70 hw; have hg : w67.grownBy w70 (some go61) := (by rw [hw]; exact HP69.2); have hp_ : Kd.N k39 39 w70 w.heap.size (fun k_ => (P0_ k_ ∨ w.heap.size ≤ k_) ∧ k_ ≠ gb287) (.slice (some ⟨go61, 0, none⟩) y296.length co61) y322 := (by rw [hw, Ny322.out]; exact HP69.1); clear HP69; replace HO0 := Aside0.mk (Kd.V_afterv (v := (.slice (some ⟨go61, 0, none⟩) y296.length co61)) (v1 := (.slice (some ⟨go61, 0, none⟩) y296.length co61)) (ok := (fun k_ => (P0_ k_ ∨ w.heap.size ≤ k_) ∧ k_ ≠ gb287)) (by (with_reducible repeat (first | apply Kd.V_alloc | apply Kd.V_drewN | apply Kd.V_drew)); (first | exact HO0.out | exact Kd.V_mono HO0.out (fun _ hk => ⟨⟨hk.1, hk.2.2⟩, hk.2.1⟩))) hg (.inl rfl)); replace BK287 := Aside0.mk (blk_grown (qK BK287.out) hg (Kd.N_ne HO298.out BK287.out (by decide))); replace HO298 := Aside0.mk (hp_); replace HB := Aside0.mk ((by rw [hw]; exact below_set (HB.out) GB61.out : Below w.heap.size w w70)); clear hg hw hp_))
          go_ret2
          exact ⟨_, qE, Kd.N_V (qN (Kd.N_mono HO298.out (fun _ hk => hk.1))), by repeat (first | (with_reducible first | exact HB.out | apply below_alloc | apply pw_below_drewN | apply below_drew1 | refine below_set ?_ GE287.out) | exact HB.out)⟩
         ·rw [if_neg c60] at H
          exact absurd H (by simp)
        ·rw [if_neg c59] at H
         exact absurd H (by simp)
       ·rw [if_neg c58] at H
        have c58b0 : (a1_0 == 2) = false := beq_eq_false_iff_ne.mpr c58
        have c58b1 : (a1_0 != 2) = true := bne_iff_ne.mpr c58
        by_cases c71 : 0 ≤ t302
        ·rw [if_pos c71] at H
         have c71b0 : decide (0 ≤ t302) = true := decide_eq_true c71
         clear c71
         by_cases c72 : t302 < (y296.length : Int)
         ·rw [if_pos c72] at H
          have c72b0 : decide (t302 < (y296.length : Int)) = true := decide_eq_true c72
          clear c72
          replace H := Option.bind_eq_some_iff.mp H
          obtain ⟨⟨t324, t327⟩, A730, H⟩ := H
          replace H : (some ((y296.set (t302 : Int).toNat (⟨(rd_T39 y296 t302).f0, (rd_T39 y296 t302).f1, (rd_T39 y296 t302).f2, t324⟩ : S39)), t327)) = some (r1, r2) := H
          have A73 := Aside0.mk A730
          clear A730
          obtain ⟨y328, hy328⟩ : ∃ y_ : List (S39), y_ = (y296.set (t302 : Int).toNat (⟨(rd_T39 y296 t302).f0, (rd_T39 y296 t302).f1, (rd_T39 y296 t302).f2, t324⟩ : S39)) := ⟨_, rfl⟩
          replace H : (some (y328, t327)) = some (r1, r2) := by first | (rw [hy328]; with_reducible exact H) | (have H2_ := (Option.bind_some _ _).symm.trans H; rw [hy328]; with_reducible exact H2_) | (have H2_ := (Option.bind_some _ _).symm.trans H; with_reducible exact H2_) | with_reducible exact H | (rw [hy328]; exact H) | exact H
          have Ny328 := Aside0.mk hy328
          clear hy328
          simp only [Option.some.injEq, Prod.mk.injEq] at H
          obtain ⟨rfl, rfl⟩ := H
          go_enter Tryz.func10, Tryz.ntmps10
          try go_wp2_with (first | ((with_reducible refine gate_dst (N := 3) rfl ?_); refine box_event ?hg (N := 3) ?hd (cs := #[.int .i64 a1_0, .int .i64 a1_1, .string a1_2, .string a1_3, .bool a1_4, .string a1_5, .int .i64 a1_6, .bool a1_7, .int .i64 a1_8, .int .i64 a1_9, .int .i64 a1_10]) (t := 26) ?hr ?_; (case hd => rfl); (case hg => rfl); (case hr => first | (go_simp; done) | (go_simp; rfl)); intro gb287 hg w75 hbox hb; have n0_ := Aside0.mk (Kd.V_below (Kd.V_elderB (qV HO0.out) gb287 (Nat.le_of_eq hg.symm)) hb); have n1_ := Aside0.mk (below_step (qB HB.out) hb); have n2_ := Aside0.mk (hbox); have n3_ := Aside0.mk ((qs hg (below_size (qB HB.out)) : w.heap.size ≤ gb287)); have n4_ := Aside0.mk ((qs hg (below_size (qB HB.out)) : w.heap.size ≤ gb287)); clear HO0 HB; have HO0 := n0_; have HB := n1_; have BK287 := n2_; have GW287 := n3_; have GE287 := n4_; clear n0_ n1_ n2_ n3_ n4_ hb hbox hg) | ((with_reducible refine gate_callee (f := 12) rfl ?_); refine goesL_ (some 12) rfl rfl Tryz.func12 qr rfl #[.slice A0 l0.length c0] rfl qG ?_; (with_reducible refine (chicaneref14_Right.calls k _ _ l0 true _ ?side1 ?side2 A3.out).mono ?_); (case side1 => repeat (first | exact (Kd.V_reads' HO0.out).2.2 | (with_reducible refine Kd.C_alloc ?_ _) | (with_reducible refine Kd.C_drewN ?_ _) | (with_reducible refine Kd.C_drew ?_))); (case side2 => exact (Kd.V_reads' HO0.out).2.1); rintro e w76 ⟨rfl, hb⟩; refine ⟨_, rfl, ?_⟩; replace HO0 := Aside0.mk (Kd.V_below (qV HO0.out) hb); replace BK287 := Aside0.mk (blk_below (qK BK287.out) hb); replace HB := Aside0.mk (below_step (qB1 HB.out GE287.out) hb); (try clear hb); (try clear hb2); (try clear hk); (try clear hi); have hcz77 := qC11 BK287.out) | ((with_reducible refine gate_dst (N := 25) rfl ?_); refine Kd.N_lit k39 _ 39 ?hg (N' := 25) ?hd (xs := ([] : List (S39))) (inner := []) (ok := (fun k_ => (P0_ k_ ∨ w.heap.size ≤ k_) ∧ k_ ≠ gb287)) (okp := (fun k_ => (P0_ k_ ∨ w.heap.size ≤ k_) ∧ k_ ≠ gb287)) ?hr ?hp (fun _ hk => hk) ((show ∀ k_, w76.heap.size ≤ k_ → (fun k_ => (P0_ k_ ∨ w.heap.size ≤ k_) ∧ k_ ≠ gb287) k_ from fun k_ hk => ⟨(.inr (Nat.le_trans (below_size (qB1 HB.out GE287.out)) hk)), Kd.freshB (qK BK287.out) k_ hk⟩) _ (Nat.le_refl _)) (Below.refl _ _) (Nat.le_refl _) (by simp) ?_; (case hd => rfl); (case hg => rfl); (case hr => first | (go_simp; done) | (go_simp; rfl)); (case hp => exact (Reps.none _ _)); intro v294 w78 ho79 hb hg_ hnew_; clear hg_ hnew_; (first | rw [← Ny293.out] at ho79 | (simp only [Int.reduceToNat] at ho79; rw [← Ny293.out] at ho79)); replace HO0 := Aside0.mk (Kd.V_elder' (qV HO0.out) (Kd.N_base ho79) hb); have HO295 := Aside0.mk (Kd.N_lower ho79 (below_size (qB1 HB.out GE287.out))); replace BK287 := Aside0.mk (blk_below (qK BK287.out) hb); replace HB := Aside0.mk (below_step (qB1 HB.out GE287.out) hb); clear hb ho79) | ((with_reducible refine gate_builtin (b := .append) (xs := #[.tmp 25, .tmp 26]) rfl ?_); at_builtin; refine Kd.N_append_rows k39 (w0 := w) w.heap.size rfl (.tmp 25) (.tmp 26) 22 39 (.agg #[(.string ⟨#[]⟩), (.bool false), (.int .i64 0), (.slice none 0 0)]) 56 rfl Tryz.underlying22 info39 rfl (by decide) (by omega) v294 y293 l0 _ _ _ (fun k_ => (P0_ k_ ∨ w.heap.size ≤ k_) ∧ k_ ≠ gb287) (fun k_ => ((fun k_ => (P0_ k_ ∨ w.heap.size ≤ k_) ∧ k_ ≠ gb287)) k_ ∧ some k_ ≠ (v294 : Value).ownBlock) rfl rfl ?aO ?aR (fun _ hk => hk) ?aF ?aB ?aS ?aL ?_; (case aR => exact (by skip; exact Kd.V_F (Kd.V_mono (ok' := (fun k_ => ((fun k_ => (P0_ k_ ∨ w.heap.size ≤ k_) ∧ k_ ≠ gb287)) k_ ∧ some k_ ≠ (v294 : Value).ownBlock)) (HO0.out) (fun k_ hk => ⟨⟨hk.1.1, hk.1.2⟩, hk.2⟩)))); (case aB => exact (qB1 HB.out GE287.out)); (case aF => exact (fun k_ hk => ⟨(.inr (Nat.le_trans (below_size (qB1 HB.out GE287.out)) hk)), Kd.freshB (qK BK287.out) k_ hk⟩)); (case aO => exact (qN HO295.out)); (case aS => exact (below_size (qB1 HB.out GE287.out))); (case aL => have := LMc11.out; omega); intro v297 w80 ho hb hg hat; rw [← Ny296.out] at ho; replace HO0 := Aside0.mk (Kd.V_afterv (ok := (fun k_ => (P0_ k_ ∨ w.heap.size ≤ k_) ∧ k_ ≠ gb287)) (by (with_reducible repeat (first | apply Kd.V_alloc | apply Kd.V_drewN | apply Kd.V_drew)); (first | exact HO0.out | exact Kd.V_mono HO0.out (fun _ hk => ⟨⟨hk.1, hk.2.2⟩, hk.2.1⟩))) hg hat); replace BK287 := Aside0.mk (blk_grown (qK BK287.out) hg (Kd.N_ne HO295.out BK287.out (by decide))); replace HB := Aside0.mk (hb); have HO298 := Aside0.mk (ho); clear HO295 ho hb hg hat; have hcz81 := qC11 BK287.out) | ((with_reducible refine gate_callee (f := 14) rfl ?_); refine goesL_ (some 55) rfl rfl Tryz.func14 qr rfl #[.slice A0 l0.length c0, .string a1_2] rfl qG ?_; (with_reducible refine (chicaneref14_Find.calls k _ _ l0 a1_2 t302 _ ?side1 ?side2 A27.out).mono ?_); (case side1 => repeat (first | exact (Kd.V_reads' HO0.out).2.2 | (with_reducible refine Kd.C_alloc ?_ _) | (with_reducible refine Kd.C_drewN ?_ _) | (with_reducible refine Kd.C_drew ?_))); (case side2 => exact (Kd.V_reads' HO0.out).2.1); rintro e w' ⟨rfl, ⟨nd, rfl⟩⟩; refine ⟨_, rfl, ?_⟩; (try (rw [drewN_self w80]; generalize hq_ : World.drewN w80 _ = w80; replace HO0 : Aside0 (Kd.V k39 39 w80 w.heap.size (fun k_ => (P0_ k_ ∨ w.heap.size ≤ k_) ∧ some k_ ≠ (v297 : Value).ownBlock ∧ k_ ≠ gb287) (.slice A0 l0.length c0) l0) := ⟨by rw [← hq_]; exact (qV (Kd.V_mono HO0.out (fun _ hk => ⟨hk.1.1, ⟨hk.2, hk.1.2⟩⟩)))⟩; replace HO298 : Aside0 (Kd.N k39 39 w80 w.heap.size (fun k_ => (P0_ k_ ∨ w.heap.size ≤ k_) ∧ k_ ≠ gb287) v297 y296) := ⟨by rw [← hq_]; exact (qN HO298.out)⟩; replace BK287 : Aside0 (w80.heap[gb287]? = some (.cells #[.int .i64 a1_0, .int .i64 a1_1, .string a1_2, .string a1_3, .bool a1_4, .string a1_5, .int .i64 a1_6, .bool a1_7, .int .i64 a1_8, .int .i64 a1_9, .int .i64 a1_10] 26 (0, 0))) := ⟨by rw [← hq_]; exact (qK BK287.out)⟩; replace HB : Aside0 (Below w.heap.size w w80) := ⟨by rw [← hq_]; exact (qB1 HB.out GE287.out)⟩; clear hq_)); have hq0_ : w80.cell? ⟨gb287, 0, none⟩ = some (.int .i64 a1_0) := (blk_cell BK287.out 0).trans rfl; have hq1_ : w80.cell? ⟨gb287, 1, none⟩ = some (.int .i64 a1_1) := (blk_cell BK287.out 1).trans rfl; have hq2_ : w80.cell? ⟨gb287, 2, none⟩ = some (.string a1_2) := (blk_cell BK287.out 2).trans rfl; have hq3_ : w80.cell? ⟨gb287, 3, none⟩ = some (.string a1_3) := (blk_cell BK287.out 3).trans rfl; have hq4_ : w80.cell? ⟨gb287, 4, none⟩ = some (.bool a1_4) := (blk_cell BK287.out 4).trans rfl; have hq5_ : w80.cell? ⟨gb287, 5, none⟩ = some (.string a1_5) := (blk_cell BK287.out 5).trans rfl; have hq6_ : w80.cell? ⟨gb287, 6, none⟩ = some (.int .i64 a1_6) := (blk_cell BK287.out 6).trans rfl; have hq7_ : w80.cell? ⟨gb287, 7, none⟩ = some (.bool a1_7) := (blk_cell BK287.out 7).trans rfl; have hq8_ : w80.cell? ⟨gb287, 8, none⟩ = some (.int .i64 a1_8) := (blk_cell BK287.out 8).trans rfl; have hq9_ : w80.cell? ⟨gb287, 9, none⟩ = some (.int .i64 a1_9) := (blk_cell BK287.out 9).trans rfl; have hq10_ : w80.cell? ⟨gb287, 10, none⟩ = some (.int .i64 a1_10) := (blk_cell BK287.out 10).trans rfl))
          replace HO0 := Aside0.mk (Kd.V_drew HO0.out)
          replace HO298 := Aside0.mk (Kd.N_drew HO298.out)
          replace BK287 := Aside0.mk (blk_drew BK287.out)
          replace HB := Aside0.mk (below_drew1 HB.out)
          obtain ⟨Ao83, co83, eo83⟩ := Kd.N_slice HO298.out
          (first | subst eo83 | (injection eo83 with f1_ f2_ f3_; have f4_ := f1_.symm; have f5_ := f3_.symm; clear f1_ f2_ f3_; subst f4_; subst f5_))
          have p323 : 0 ≤ (t302 : Int) := of_decide_eq_true qA
          have q323 : t302 < (y296.length : Int) := of_decide_eq_true qA
          obtain ⟨ad323, A323_3, c323_3, e323, hx323_0, hx323_1, hx323_2, hx323_3, hl323_3, hi323_3⟩ := at_T39 (Kd.N_reads' HO298.out).2.2 t302 p323 q323
          cases e323
          obtain ⟨ce323, hce323, hMe323, hcc323⟩ := Kd.N_get HO298.out z39 t302 p323 (by first | exact q323 | exact of_decide_eq_true qA | (have e_ := (Kd.N_reads' HO298.out).1; omega))
          obtain ⟨ua323_3, uc323_3, rfl, ul323_3, ge323_3⟩ := k39_openF hMe323
          have hv323_3 := hcc323 3 _ rfl
          rw [add_field _ _ 3 (by omega)] at hv323_3
          replace hv323_3 := Option.some.inj (hv323_3.symm.trans hx323_3)
          injection hv323_3 with hva_ hvn_ hvc_
          rw [hva_] at ge323_3
          rw [hvc_] at ul323_3
          have HL323_3 := Aside0.mk (show Kd.V k24 24 _ w.heap.size _ _ ((rd_T39 y296 t302).f3) from Kd.V_mk ul323_3 ge323_3)
          clear hva_ hvn_ hvc_ ge323_3 ul323_3 hcc323 hce323
          have HR323_3 := Aside0.mk hi323_3
          have HC323_3 := Aside0.mk hl323_3
          clear hi323_3 hl323_3
          replace p323 := eq_true p323
          replace q323 := eq_true q323
          refine start_ (n := 12) (S := fun w' => w'.cell? ⟨gb287, 0, none⟩ = some (.int .i64 a1_0) ∧ w'.cell? ⟨gb287, 1, none⟩ = some (.int .i64 a1_1) ∧ w'.cell? ⟨gb287, 2, none⟩ = some (.string a1_2) ∧ w'.cell? ⟨gb287, 3, none⟩ = some (.string a1_3) ∧ w'.cell? ⟨gb287, 4, none⟩ = some (.bool a1_4) ∧ w'.cell? ⟨gb287, 5, none⟩ = some (.string a1_5) ∧ w'.cell? ⟨gb287, 6, none⟩ = some (.int .i64 a1_6) ∧ w'.cell? ⟨gb287, 7, none⟩ = some (.bool a1_7) ∧ w'.cell? ⟨gb287, 8, none⟩ = some (.int .i64 a1_8) ∧ w'.cell? ⟨gb287, 9, none⟩ = some (.int .i64 a1_9) ∧ w'.cell? ⟨gb287, 10, none⟩ = some (.int .i64 a1_10) ∧ w'.cell? (ad323.add ((t302).toNat * 4)) = some (.string ((rd_T39 y296 t302).f0)) ∧ w'.cell? ⟨(ad323.add ((t302).toNat * 4)).block, (ad323.add ((t302).toNat * 4)).off + 1, none⟩ = some (.bool ((rd_T39 y296 t302).f1)) ∧ w'.cell? ⟨(ad323.add ((t302).toNat * 4)).block, (ad323.add ((t302).toNat * 4)).off + 2, none⟩ = some (.int .i64 ((rd_T39 y296 t302).f2)) ∧ w'.cell? ⟨(ad323.add ((t302).toNat * 4)).block, (ad323.add ((t302).toNat * 4)).off + 3, none⟩ = some (.slice A323_3 ((rd_T39 y296 t302).f3).length c323_3)) (ds := []) #[false, false, false, false, false, false, false, false, false, false, false, false] qr rfl rfl ⟨(blk_cell BK287.out 0).trans rfl, (blk_cell BK287.out 1).trans rfl, (blk_cell BK287.out 2).trans rfl, (blk_cell BK287.out 3).trans rfl, (blk_cell BK287.out 4).trans rfl, (blk_cell BK287.out 5).trans rfl, (blk_cell BK287.out 6).trans rfl, (blk_cell BK287.out 7).trans rfl, (blk_cell BK287.out 8).trans rfl, (blk_cell BK287.out 9).trans rfl, (blk_cell BK287.out 10).trans rfl, hx323_0, hx323_1, hx323_2, hx323_3⟩ (fun hHeld => ?_); refine with_tabW chicaneref14_Do.tab22 chicaneref14_Do.bits22 (fun HT_ HW_ => ?_)
          generalize w80.drew = w82 at HO0 HO298 BK287 HB HL323_3 HR323_3 hx323_0 hx323_1 hx323_2 hx323_3 hHeld ⊢
          refine qP (i := 0) (N := some 83) HT_.out ?_
          refine qP (i := 1) (N := some 84) HT_.out ?_
          refine qP (i := 2) (N := some 85) HT_.out ?_
          refine qP (i := 3) (N := some 86) HT_.out ?_
          refine take_ (i := 4) (N := some 87) (v := ?_) (a' := ?_) #[true, true, true, true, true, false, false, false, false, false, false, false] rfl rfl (take_ofW HT_.out HW_.out qr) (fun _ _ _ h => h) (Or.inl ⟨by rfl, ?_⟩) hHeld ?_ ?_
          rotate_left
          ·rintro w' ⟨s0, s1, s2, s3, s4, s5, s6, s7, s8, s9, s10, s11, s12, s13, s14⟩
           go_simp
           with_reducible rfl
          rotate_left
          ·simp only [Act.put, List.setIfInBounds_toArray, List.set_cons_zero, List.set_cons_succ, i64_w, i32_w]
           rfl
          refine take_ (i := 5) (N := some 88) (v := ?_) (a' := ?_) #[true, true, true, true, true, true, false, false, false, false, false, false] rfl rfl (take_ofW HT_.out HW_.out qr) (fun _ _ _ h => h) (Or.inl ⟨by rfl, ?_⟩) hHeld ?_ ?_
          rotate_left
          ·rintro w' ⟨s0, s1, s2, s3, s4, s5, s6, s7, s8, s9, s10, s11, s12, s13, s14⟩
           go_simp
           with_reducible rfl
          rotate_left
          ·simp only [Act.put, List.setIfInBounds_toArray, List.set_cons_zero, List.set_cons_succ, i64_w, i32_w]
           rfl
          refine qO (i := 6) (N := some 89) HT_.out (fun K hK => ?_)
          refine goes_ Tryz.func26 qr rfl #[.slice A323_3 ((rd_T39 y296 t302).f3).length c323_3, .agg #[.int .i64 a1_0, .int .i64 a1_1, .string a1_2, .string a1_3, .bool a1_4, .string a1_5, .int .i64 a1_6, .bool a1_7, .int .i64 a1_8, .int .i64 a1_9, .int .i64 a1_10]] (by rfl) rfl rfl qG ?_
          with_reducible refine (chicaneref14_toxics.calls k (fun k_ => (((P0_ k_ ∨ w.heap.size ≤ k_) ∧ k_ ≠ gb287) ∧ some k_ ≠ (.slice (some ad323) y296.length co83 : Value).ownBlock)) _ _ ((rd_T39 y296 t302).f3) a1_0 a1_1 a1_2 a1_3 a1_4 a1_5 a1_6 a1_7 a1_8 a1_9 a1_10 t324 t327 _ ?side1 A73.out).mono ?_
          (case side1 => exact HL323_3.out)
          rintro e w84 ⟨v325, rfl, ho0, hb⟩
          have HS11_ := (hb.cell (World.block_lt_of_cell? _ _ (hHeld.2.2.2.2.2.2.2.2.2.2.2.1))).trans (hHeld.2.2.2.2.2.2.2.2.2.2.2.1)
          have HS12_ := (hb.cell (World.block_lt_of_cell? _ _ (hHeld.2.2.2.2.2.2.2.2.2.2.2.2.1))).trans (hHeld.2.2.2.2.2.2.2.2.2.2.2.2.1)
          have HS13_ := (hb.cell (World.block_lt_of_cell? _ _ (hHeld.2.2.2.2.2.2.2.2.2.2.2.2.2.1))).trans (hHeld.2.2.2.2.2.2.2.2.2.2.2.2.2.1)
          have HS14_ := (hb.cell (World.block_lt_of_cell? _ _ (hHeld.2.2.2.2.2.2.2.2.2.2.2.2.2.2))).trans (hHeld.2.2.2.2.2.2.2.2.2.2.2.2.2.2)
          refine ⟨_, rfl, ?_⟩
          have n0_ := Aside0.mk (Kd.V_below (qV HO0.out) hb)
          have n1_ := Aside0.mk (Kd.N_below (qN HO298.out) hb)
          have n2_ := Aside0.mk (Kd.V_below (qV HL323_3.out) hb)
          have n3_ := Aside0.mk (Kd.V_lower (Kd.V_mono (ok' := fun k_ => (P0_ k_ ∨ w.heap.size ≤ k_) ∧ some k_ ≠ (.slice (some ad323) y296.length co83 : Value).ownBlock ∧ k_ ≠ gb287) ho0 (fun k_ hk_ => ⟨Or.elim hk_ (fun hs_ => hs_.1.1) (fun hn_ => (.inr (Nat.le_trans (below_size (qB1 HB.out GE287.out)) hn_))), Or.elim hk_ (fun hs_ => hs_.2) (fun hn_ => (Kd.fresh' (Kd.N_lt (qN HO298.out)) k_ hn_)), Or.elim hk_ (fun hs_ => hs_.1.2) (fun hn_ => (Kd.freshB (qK BK287.out) k_ hn_))⟩)) (below_size (qB1 HB.out GE287.out)))
          have n4_ := Aside0.mk (blk_below (qK BK287.out) hb)
          have n5_ := Aside0.mk (Kd.C_below (by repeat (first | (with_reducible exact HR323_3.out) | (with_reducible refine Kd.C_alloc ?_ _) | (with_reducible refine Kd.C_drewN ?_ _) | (with_reducible refine Kd.C_drew ?_) | exact HR323_3.out)) hb)
          have n6_ := Aside0.mk (below_step (qB1 HB.out GE287.out) hb)
          clear HO0 HO298 HL323_3 BK287 HR323_3 HB
          have HO0 := n0_
          have HO298 := n1_
          have HL323_3 := n2_
          have HO326 := n3_
          have BK287 := n4_
          have HR323_3 := n5_
          have HB := n6_
          clear n0_ n1_ n2_ n3_ n4_ n5_ n6_
          (try clear hb)
          (try clear hb2)
          (try clear hk)
          (try clear hi)
          (try clear ho0)
          refine hK.out _ _ ⟨(blk_cell BK287.out 0).trans rfl, (blk_cell BK287.out 1).trans rfl, (blk_cell BK287.out 2).trans rfl, (blk_cell BK287.out 3).trans rfl, (blk_cell BK287.out 4).trans rfl, (blk_cell BK287.out 5).trans rfl, (blk_cell BK287.out 6).trans rfl, (blk_cell BK287.out 7).trans rfl, (blk_cell BK287.out 8).trans rfl, (blk_cell BK287.out 9).trans rfl, (blk_cell BK287.out 10).trans rfl, HS11_, HS12_, HS13_, HS14_⟩ (fun hHeld => ?_)
          clear hK K
          refine qM (N := some 89) ?_
          refine qP (i := 7) (N := some 82) HT_.out ?_
          refine qP (i := 8) (N := some 90) HT_.out ?_
          refine qP (i := 9) (N := some 91) HT_.out ?_
          refine qP (i := 10) (N := some 9) HT_.out ?_
          refine qP (i := 11) (N := some 10) HT_.out ?_
          refine done_ (done_of HT_.out qr) ?_
          have p74 : 0 ≤ (t302 : Int) := of_decide_eq_true qA
          have q74 : (t302 : Int) < ((y296.length : Int) : Int) := of_decide_eq_true qA
          obtain ⟨go74, co74, eo74, gb74, gl74, cl74, HG74⟩ := Kd.N_form HO298.out (by omega)
          (first | cases eo74 | (injection eo74 with ea_ en_ ec_; (first | subst ea_ | (injection ea_ with ea_; subst ea_)); subst ec_; clear en_))
          have GB74 := Aside0.mk gb74
          have GG74 := Aside0.mk HG74
          clear gb74 gl74 HG74
          (first | simp only [add_plain] at hx323_0 | skip)
          (first | simp only [add_plain] at hx323_1 | skip)
          (first | simp only [add_plain] at hx323_2 | skip)
          (first | simp only [add_plain] at hx323_3 | skip)
          obtain ⟨ce74, hcl74, hM74, hcc74, hfr74⟩ := Kd.N_elem HO298.out z39 (t302 : Int) p74 q74
          obtain ⟨ua74_3, uc74_3, rfl, ul74_3, ge74_3⟩ := k39_openF hM74
          have hx74_0 : w84.cell? ⟨go74, (t302 : Int).toNat * 4, none⟩ = some (.string ((rd_T39 y296 t302).f0)) := hcc74 0 _ rfl
          have hx74_1 : w84.cell? ⟨go74, (t302 : Int).toNat * 4 + 1, none⟩ = some (.bool ((rd_T39 y296 t302).f1)) := hcc74 1 _ rfl
          have hx74_2 : w84.cell? ⟨go74, (t302 : Int).toNat * 4 + 2, none⟩ = some (.int .i64 ((rd_T39 y296 t302).f2)) := hcc74 2 _ rfl
          have hx74_3 : w84.cell? ⟨go74, (t302 : Int).toNat * 4 + 3, none⟩ = some (.slice ua74_3 ((rd_T39 y296 t302).f3).length uc74_3) := hcc74 3 _ rfl
          have hf74_0 : w84.frozen? ⟨go74, (t302 : Int).toNat * 4, none⟩ = false := hfr74 0
          have hf74_1 : w84.frozen? ⟨go74, (t302 : Int).toNat * 4 + 1, none⟩ = false := hfr74 1
          have hf74_2 : w84.frozen? ⟨go74, (t302 : Int).toNat * 4 + 2, none⟩ = false := hfr74 2
          have hf74_3 : w84.frozen? ⟨go74, (t302 : Int).toNat * 4 + 3, none⟩ = false := hfr74 3
          clear hcl74 hcc74 hfr74 hM74
          replace p74 := eq_true p74
          replace q74 := eq_true q74
          have HX85 := Aside0.mk (show Kd.N k39 39 w84 w.heap.size (fun k_ => (P0_ k_ ∨ w.heap.size ≤ k_) ∧ k_ ≠ gb287) (.slice (some ⟨go74, 0, none⟩) y296.length co83) y296 from (qN HO298.out))
          obtain ⟨ce85, hcl85, hM85, hcc85, hfr85⟩ := Kd.N_elem HX85.out z39 (t302 : Int) (of_decide_eq_true qA) (by have h_ : (t302 : Int) < ((y296.length : Int) : Int) := of_decide_eq_true qA; first | exact h_ | (have e_ := (Kd.N_reads' HO298.out).1; omega) | simpa using h_)
          obtain ⟨ua85_3, uc85_3, rfl, ul85_3, ge85_3⟩ := k39_openF hM85
          obtain ⟨Aq_, cq_, eq_⟩ := Kd.V_slice HO326.out
          subst eq_
          have HP85 := Kd.N_seg HX85.out (t302 : Int) (of_decide_eq_true qA) (by have h_ : (t302 : Int) < ((y296.length : Int) : Int) := of_decide_eq_true qA; first | exact h_ | (have e_ := (Kd.N_reads' HO298.out).1; omega) | simpa using h_) (seg := [(.slice Aq_ t324.length cq_)]) (j := 3) hcl85 hcc85 (show 4 ≤ 4 from by decide) (x' := (⟨(rd_T39 y296 t302).f0, (rd_T39 y296 t302).f1, (rd_T39 y296 t302).f2, t324⟩ : S39)) (k39_mkF _ _ (⟨(rd_T39 y296 t302).f0, (rd_T39 y296 t302).f1, (rd_T39 y296 t302).f2, t324⟩ : S39) (Kd.V_reads' (Kd.V_mono (ok' := (fun k_ => ((fun k_ => (P0_ k_ ∨ w.heap.size ≤ k_) ∧ k_ ≠ gb287)) k_ ∧ k_ ≠ go74)) (HO326.out) (fun k_ hk => ⟨⟨hk.1, hk.2.2⟩, fun e_ => (hk.2.1) (by rw [e_]; rfl)⟩))).2.1 (Kd.V_F (Kd.V_mono (ok' := (fun k_ => ((fun k_ => (P0_ k_ ∨ w.heap.size ≤ k_) ∧ k_ ≠ gb287)) k_ ∧ k_ ≠ go74)) (HO326.out) (fun k_ hk => ⟨⟨hk.1, hk.2.2⟩, fun e_ => (hk.2.1) (by rw [e_]; rfl)⟩)))) (fun _ hk => hk)
          have hx85_3 := hcc85 3 _ rfl
          (try simp only [show (k39).sz = 4 from rfl, Nat.mul_one, Nat.add_zero] at hx85_3)
          have hf85_3 := hfr85 3
          (try simp only [show (k39).sz = 4 from rfl, Nat.mul_one, Nat.add_zero] at hf85_3)
          clear hcl85 hcc85 hfr85 hM85
          try go_wp2_with (first | ((with_reducible refine gate_store (t := 37) (p := 96) rfl ?_); refine store_event (t := 37) (p := 96) (v := ?vo_w86) (w1 := (w84.setCell ⟨go74, (t302 : Int).toNat * 4 + 3, none⟩ ((.slice Aq_ t324.length cq_)))) ?hg ?ho ?hn ?hr ?_; (case ho => rfl); (case hg => rfl); (case hn => rfl); (case hr => first | (go_simp; done) | (go_simp; rfl)); intro w86 hw; have hg : w84.grownBy w86 (some go74) := (by rw [hw]; exact HP85.2); have hp_ : Kd.N k39 39 w86 w.heap.size (fun k_ => (P0_ k_ ∨ w.heap.size ≤ k_) ∧ k_ ≠ gb287) (.slice (some ⟨go74, 0, none⟩) y296.length co83) y328 := (by rw [hw, Ny328.out]; exact HP85.1); clear HP85; replace HO0 := Aside0.mk (Kd.V_afterv (v := (.slice (some ⟨go74, 0, none⟩) y296.length co83)) (v1 := (.slice (some ⟨go74, 0, none⟩) y296.length co83)) (ok := (fun k_ => (P0_ k_ ∨ w.heap.size ≤ k_) ∧ k_ ≠ gb287)) (by (with_reducible repeat (first | apply Kd.V_alloc | apply Kd.V_drewN | apply Kd.V_drew)); (first | exact HO0.out | exact Kd.V_mono HO0.out (fun _ hk => ⟨⟨hk.1, hk.2.2⟩, hk.2.1⟩))) hg (.inl rfl)); replace BK287 := Aside0.mk (blk_grown (qK BK287.out) hg (Kd.N_ne HO298.out BK287.out (by decide))); replace HO298 := Aside0.mk (hp_); replace HL323_3 := Aside0.mk (Kd.V_afterv (v := (.slice (some ⟨go74, 0, none⟩) y296.length co83)) (v1 := (.slice (some ⟨go74, 0, none⟩) y296.length co83)) (ok := (fun k_ => (P0_ k_ ∨ w.heap.size ≤ k_) ∧ k_ ≠ gb287)) (qV HL323_3.out) hg (.inl rfl)); replace HO326 := Aside0.mk (Kd.V_afterv (v := (.slice (some ⟨go74, 0, none⟩) y296.length co83)) (v1 := (.slice (some ⟨go74, 0, none⟩) y296.length co83)) (ok := (fun k_ => (P0_ k_ ∨ w.heap.size ≤ k_) ∧ k_ ≠ gb287)) (qV (Kd.V_mono HO326.out (fun _ hk => ⟨⟨hk.1, hk.2.2⟩, hk.2.1⟩))) hg (.inl rfl)); replace HB := Aside0.mk ((by rw [hw]; exact below_set (HB.out) GB74.out : Below w.heap.size w w86)); clear hg hw hp_))
          go_ret2
          exact ⟨_, qE, Kd.N_V (qN (Kd.N_mono HO298.out (fun _ hk => hk.1))), by repeat (first | (with_reducible first | exact HB.out | apply below_alloc | apply pw_below_drewN | apply below_drew1 | refine below_set ?_ GE287.out) | exact HB.out)⟩
         ·rw [if_neg c72] at H
          exact absurd H (by simp)
        ·rw [if_neg c71] at H
         exact absurd H (by simp)
   ·rw [if_neg c11] at H
    exact absurd H (by simp)
 ·replace c4 := Bool.eq_false_iff.mpr c4
  subst c4
  have H1 : (if a1_0 = 6 then (some (([] : List (S39)), 0)) else (some (([] : List (S39)), 1))) = some (r1, r2) := by rw [if_neg (show ¬ (false = true) by decide)] at H; exact H
  clear H
  have H := H1
  clear H1
  by_cases c87 : a1_0 = 6
  ·rw [if_pos c87] at H
   have c87b0 : (a1_0 == 6) = true := beq_iff_eq.mpr c87
   have c87b1 : (a1_0 != 6) = false := bne_eq_false_iff_eq.mpr c87
   clear c87
   simp only [Option.some.injEq, Prod.mk.injEq] at H
   obtain ⟨rfl, rfl⟩ := H
   go_enter Tryz.func10, Tryz.ntmps10
   go_wp2_with (first | ((with_reducible refine gate_dst (N := 3) rfl ?_); refine box_event ?hg (N := 3) ?hd (cs := #[.int .i64 a1_0, .int .i64 a1_1, .string a1_2, .string a1_3, .bool a1_4, .string a1_5, .int .i64 a1_6, .bool a1_7, .int .i64 a1_8, .int .i64 a1_9, .int .i64 a1_10]) (t := 26) ?hr ?_; (case hd => rfl); (case hg => rfl); (case hr => first | (go_simp; done) | (go_simp; rfl)); intro gb287 hg w88 hbox hb; have n0_ := Aside0.mk (Kd.V_below (Kd.V_elderB (qV HO0.out) gb287 (Nat.le_of_eq hg.symm)) hb); have n1_ := Aside0.mk (below_step (qB HB.out) hb); have n2_ := Aside0.mk (hbox); have n3_ := Aside0.mk ((qs hg (below_size (qB HB.out)) : w.heap.size ≤ gb287)); have n4_ := Aside0.mk ((qs hg (below_size (qB HB.out)) : w.heap.size ≤ gb287)); clear HO0 HB; have HO0 := n0_; have HB := n1_; have BK287 := n2_; have GW287 := n3_; have GE287 := n4_; clear n0_ n1_ n2_ n3_ n4_ hb hbox hg) | ((with_reducible refine gate_callee (f := 12) rfl ?_); refine goesL_ (some 12) rfl rfl Tryz.func12 qr rfl #[.slice A0 l0.length c0] rfl qG ?_; (with_reducible refine (chicaneref14_Right.calls k _ _ l0 false _ ?side1 ?side2 A3.out).mono ?_); (case side1 => repeat (first | exact (Kd.V_reads' HO0.out).2.2 | (with_reducible refine Kd.C_alloc ?_ _) | (with_reducible refine Kd.C_drewN ?_ _) | (with_reducible refine Kd.C_drew ?_))); (case side2 => exact (Kd.V_reads' HO0.out).2.1); rintro e w89 ⟨rfl, hb⟩; refine ⟨_, rfl, ?_⟩; replace HO0 := Aside0.mk (Kd.V_below (qV HO0.out) hb); replace BK287 := Aside0.mk (blk_below (qK BK287.out) hb); replace HB := Aside0.mk (below_step (qB1 HB.out GE287.out) hb); (try clear hb); (try clear hb2); (try clear hk); (try clear hi); have hcz90 := qC11 BK287.out))
   go_ret2
   exact ⟨_, qE, (by first | exact Kd.V_nil _ _ _ _ _ | exact Kd.S_nil _ _ _ _ _ | exact Kd.N_nil _ _ _ _ _ | exact Kd.V_nil _ _ _ _ _ | exact Kd.Q_nil _ _ _ _ _ | exact Kd.R_nil _ _ _ _ _), by repeat (first | (with_reducible first | exact HB.out | apply below_alloc | apply pw_below_drewN | apply below_drew1 | refine below_set ?_ GE287.out) | exact HB.out)⟩
  ·rw [if_neg c87] at H
   have c87b0 : (a1_0 == 6) = false := beq_eq_false_iff_ne.mpr c87
   have c87b1 : (a1_0 != 6) = true := bne_iff_ne.mpr c87
   simp only [Option.some.injEq, Prod.mk.injEq] at H
   obtain ⟨rfl, rfl⟩ := H
   go_enter Tryz.func10, Tryz.ntmps10
   go_wp2_with (first | ((with_reducible refine gate_dst (N := 3) rfl ?_); refine box_event ?hg (N := 3) ?hd (cs := #[.int .i64 a1_0, .int .i64 a1_1, .string a1_2, .string a1_3, .bool a1_4, .string a1_5, .int .i64 a1_6, .bool a1_7, .int .i64 a1_8, .int .i64 a1_9, .int .i64 a1_10]) (t := 26) ?hr ?_; (case hd => rfl); (case hg => rfl); (case hr => first | (go_simp; done) | (go_simp; rfl)); intro gb287 hg w91 hbox hb; have n0_ := Aside0.mk (Kd.V_below (Kd.V_elderB (qV HO0.out) gb287 (Nat.le_of_eq hg.symm)) hb); have n1_ := Aside0.mk (below_step (qB HB.out) hb); have n2_ := Aside0.mk (hbox); have n3_ := Aside0.mk ((qs hg (below_size (qB HB.out)) : w.heap.size ≤ gb287)); have n4_ := Aside0.mk ((qs hg (below_size (qB HB.out)) : w.heap.size ≤ gb287)); clear HO0 HB; have HO0 := n0_; have HB := n1_; have BK287 := n2_; have GW287 := n3_; have GE287 := n4_; clear n0_ n1_ n2_ n3_ n4_ hb hbox hg) | ((with_reducible refine gate_callee (f := 12) rfl ?_); refine goesL_ (some 12) rfl rfl Tryz.func12 qr rfl #[.slice A0 l0.length c0] rfl qG ?_; (with_reducible refine (chicaneref14_Right.calls k _ _ l0 false _ ?side1 ?side2 A3.out).mono ?_); (case side1 => repeat (first | exact (Kd.V_reads' HO0.out).2.2 | (with_reducible refine Kd.C_alloc ?_ _) | (with_reducible refine Kd.C_drewN ?_ _) | (with_reducible refine Kd.C_drew ?_))); (case side2 => exact (Kd.V_reads' HO0.out).2.1); rintro e w92 ⟨rfl, hb⟩; refine ⟨_, rfl, ?_⟩; replace HO0 := Aside0.mk (Kd.V_below (qV HO0.out) hb); replace BK287 := Aside0.mk (blk_below (qK BK287.out) hb); replace HB := Aside0.mk (below_step (qB1 HB.out GE287.out) hb); (try clear hb); (try clear hb2); (try clear hk); (try clear hi); have hcz93 := qC11 BK287.out))
   go_ret2
   exact ⟨_, qE, (by first | exact Kd.V_nil _ _ _ _ _ | exact Kd.S_nil _ _ _ _ _ | exact Kd.N_nil _ _ _ _ _ | exact Kd.V_nil _ _ _ _ _ | exact Kd.Q_nil _ _ _ _ _ | exact Kd.R_nil _ _ _ _ _), by repeat (first | (with_reducible first | exact HB.out | apply below_alloc | apply pw_below_drewN | apply below_drew1 | refine below_set ?_ GE287.out) | exact HB.out)⟩
end Go.Proofs.YtlglbpjccpdloaaGreat.PNamA
namespace Go.Proofs.YtlglbpjccpdloaaGreat.PNamA
open Go.Proofs.YtlglbpjccpdloaaGreat.Ext Go.Proofs.YtlglbpjccpdloaaGreat.ToxZ Go.RowKit Go.Proofs.YtlglbpjccpdloaaGreatW.PrintWords Go.Proofs.YtlglbpjccpdloaaGreatW.PrintLast Go.Proofs.YtlglbpjccpdloaaGreatW.PrintMore Go.Proofs.YtlglbpjccpdloaaGreat.Sq
attribute [local go_sem] max2_int min2_int max_two min_two max_three min_three max_four min_four   -- for this text's walks alone
set_option linter.unusedVariables false
set_option linter.unusedSimpArgs false
mutual
def chicanelaw14_NamesAll.j0 : Nat → List (S39) → Bool → Int → Int → ByteArray → ByteArray → Bool → ByteArray → Int → Bool → Int → Int → Int → Option (Bool)
 | 0, _, _, _, _, _, _, _, _, _, _, _, _, _ => none
 | k + 1, x0, x17, x336000, x336001, x336002, x336003, x336004, x336005, x336006, x336007, x336008, x336009, x336010 => if x17 = true then ((chicanelaw14_alive.f k).bind fun t338 => (some t338)) else ((chicanelaw14_does.f k x0 x336000 x336001 x336002 x336003 x336004 x336005 x336006 x336007 x336008 x336009 x336010).bind fun bt339 => ((chicaneref14_Do.f k x0 x336000 x336001 x336002 x336003 x336004 x336005 x336006 x336007 x336008 x336009 x336010).bind fun bt343 => ((chicaneref14_Same.f k bt339.1 bt343.1).bind fun t347 => (if t347 = true then (chicanelaw14_NamesAll.j1 k x0 bt339.1 bt339.2 (bt339.2 != bt343.2)) else (chicanelaw14_NamesAll.j1 k x0 bt339.1 bt339.2 true)))))
def chicanelaw14_NamesAll.j1 : Nat → List (S39) → List (S39) → Int → Bool → Option (Bool)
 | 0, _, _, _, _ => none
 | k + 1, x0, x5, x6, x39 => if x39 = true then (some false) else ((chicaneref14_Right.f k x0).bind fun t348 => ((chicanelaw14_alive.f k).bind fun t349 => (if t349 = true then ((names_Right.f k x0).bind fun t350 => (if (t350 == t348) = true then (if t348 = true then ((names_Right.f k x5).bind fun t351 => (if t351 = true then (if x6 = 0 then (some true) else ((chicaneref14_Same.f k x5 x0).bind fun t352 => (some t352))) else (some false))) else (some true)) else (some false))) else (some false))))
end
def chicanelaw14_NamesAll.f (k : Nat) (l0 : List (S39)) (a1_0 : Int) (a1_1 : Int) (a1_2 : ByteArray) (a1_3 : ByteArray) (a1_4 : Bool) (a1_5 : ByteArray) (a1_6 : Int) (a1_7 : Bool) (a1_8 : Int) (a1_9 : Int) (a1_10 : Int) : Option (Bool) := (chicanelaw14_few.f k l0).bind fun t336 => (if t336 = true then ((chicanelaw14_kind.f a1_0 a1_1 a1_2 a1_3 a1_4 a1_5 a1_6 a1_7 a1_8 a1_9 a1_10).bind fun t337 => (chicanelaw14_NamesAll.j0 k l0 (!t337) a1_0 a1_1 a1_2 a1_3 a1_4 a1_5 a1_6 a1_7 a1_8 a1_9 a1_10)) else (chicanelaw14_NamesAll.j0 k l0 true a1_0 a1_1 a1_2 a1_3 a1_4 a1_5 a1_6 a1_7 a1_8 a1_9 a1_10))
end Go.Proofs.YtlglbpjccpdloaaGreat.PNamA
set_option linter.unusedVariables false
set_option linter.unusedSimpArgs false
namespace Go.Proofs.YtlglbpjccpdloaaGreat.Ext
open Go.RowKit Go.Proofs.YtlglbpjccpdloaaGreat.PNamA Go.Proofs.YtlglbpjccpdloaaGreat.Tox Go.Proofs.YtlglbpjccpdloaaGreat.ToxZ Go.Proofs.YtlglbpjccpdloaaGreat.NmLaw Go.Proofs.YtlglbpjccpdloaaGreatW.PrintWords Go.Proofs.YtlglbpjccpdloaaGreatW.PrintLast
theorem rfindQ_l0 (l : List S39) (hm : l.length ≤ 1000000) (s : ByteArray) : ∀ (k i : Nat), l.length - i < k → i ≤ l.length →
    chicaneref14_Find.l0 k l s (i : Int) = some (Lib.idxFromS ((namesP l).drop i) s i) := by
  intro k
  induction k with
  | zero => intro i h; omega
  | succ k ih =>
    intro i h hi
    unfold chicaneref14_Find.l0
    by_cases hl : i < l.length
    · have hd : (namesP l).drop i = l[i].f0 :: (namesP l).drop (i + 1) := by
        rw [namesP, List.drop_eq_getElem_cons (by simpa using hl)]; simp
      rw [if_pos (by omega), if_pos (by omega), rdP_at l i hl, hd, Lib.idxFromS]
      by_cases he : l[i].f0 = s
      · rw [if_pos ((nm_toList_eq_iff _ _).2 he), if_pos he]
      · rw [if_neg (fun h2 => he ((nm_toList_eq_iff _ _).1 h2)), if_neg he, show wrap64 ((i : Int) + 1) = ((i + 1 : Nat) : Int) by rw [w64_in' _ (by omega) (by omega)]; rfl]
        exact ih (i + 1) (by omega) (by omega)
    · rw [if_neg (by omega), List.drop_eq_nil_of_le (by simp [namesP]; omega)]
      rfl
theorem rfindQ_is (l : List S39) (hm : l.length ≤ 1000000) (s : ByteArray) (k : Nat) (hk : l.length < k) : chicaneref14_Find.f k l s = some (place (namesP l) s) := by
  have := rfindQ_l0 l hm s k 0 (by omega) (by omega)
  rw [List.drop_zero] at this
  exact this
theorem rput_l0 (l : List S39) (hm : l.length ≤ 1000) (p0 : ByteArray) (p1 : Bool) (p2 : Int) (p3 : List S24) : ∀ (n i : Nat) (k : Nat) (out : List S39) (b : Bool), l.length - i = n → i ≤ l.length → n < k → out.length + 2 * n ≤ 5000 →
    chicaneref14_put.l0 k l out b (i : Int) p0 p1 p2 p3 = some (if b then out ++ l.drop i else out ++ insP ⟨p0, p1, p2, p3⟩ (l.drop i)) := by
  intro n
  induction n with
  | zero =>
    intro i k out b hn hi hk ho
    obtain ⟨k, rfl⟩ : ∃ m, k = m + 1 := ⟨k - 1, by omega⟩
    unfold chicaneref14_put.l0
    rw [if_neg (by omega), List.drop_eq_nil_of_le (by omega)]
    cases b with
    | true => simp
    | false =>
      rw [if_neg (by simp), if_pos (by omega)]
      rfl
  | succ n ih =>
    intro i k out b hn hi hk ho
    obtain ⟨k, rfl⟩ : ∃ m, k = m + 1 := ⟨k - 1, by omega⟩
    have hl : i < l.length := by omega
    have hw : wrap64 ((i : Int) + 1) = ((i + 1 : Nat) : Int) := by rw [w64_in' _ (by omega) (by omega)]; rfl
    have hx : (⟨l[i].f0, l[i].f1, l[i].f2, l[i].f3⟩ : S39) = l[i] := rfl
    unfold chicaneref14_put.l0
    rw [if_pos (by omega), List.drop_eq_getElem_cons hl, rdP_at l i hl, hw]
    cases b with
    | true =>
      rw [if_pos rfl, if_pos (by omega), if_pos (by omega), ih (i + 1) k _ true (by omega) (by omega) (by omega) (by simp; omega)]
      show some (out ++ [_] ++ _) = some (out ++ _)
      rw [List.append_assoc]
      rfl
    | false =>
      rw [if_neg (by simp), if_pos (by omega)]
      have hins : insP ⟨p0, p1, p2, p3⟩ (l[i] :: l.drop (i + 1)) = if ltS p0 l[i].f0 then ⟨p0, p1, p2, p3⟩ :: l[i] :: l.drop (i + 1) else l[i] :: insP ⟨p0, p1, p2, p3⟩ (l.drop (i + 1)) := rfl
      rw [hins]
      by_cases hlt : ltS p0 l[i].f0 = true
      · rw [if_pos (show Op.bytesLess _ _ = true from hlt), if_pos (by omega), Option.bind_some, if_pos (by simp; omega), if_pos hlt]
        rw [ih (i + 1) k _ true (by omega) (by omega) (by omega) (by simp; omega)]
        show some (out ++ [_] ++ [_] ++ _) = some (out ++ _)
        rw [List.append_assoc, List.append_assoc]
        rfl
      · rw [if_neg (show ¬ Op.bytesLess _ _ = true from hlt), if_pos (by omega), if_neg hlt, ih (i + 1) k _ false (by omega) (by omega) (by omega) (by simp; omega)]
        simp
theorem rput_is (l : List S39) (hm : l.length ≤ 1000) (p0 : ByteArray) (p1 : Bool) (p2 : Int) (p3 : List S24) (k : Nat) (hk : l.length < k) :
    chicaneref14_put.f k l p0 p1 p2 p3 = some (insP ⟨p0, p1, p2, p3⟩ l) := by
  have := rput_l0 l hm p0 p1 p2 p3 l.length 0 k [] false (by omega) (by omega) (by omega) (by simp; omega)
  rw [List.drop_zero] at this
  exact this
theorem radd_is {l : List S39} (hr : rightB l = true) (o0 o1 : Int) (o2 o3 : ByteArray) (o4 : Bool) (o5 : ByteArray) (o6 : Int) (o7 : Bool) (o8 o9 o10 : Int) (hs : o2.size ≤ 9223372036854775807) (k : Nat) (hk : 20 ≤ k) :
    chicaneref14_add.f k l o0 o1 o2 o3 o4 o5 o6 o7 o8 o9 o10 = some (addOf l o2 o1) := by
  obtain ⟨k, rfl⟩ : ∃ m, k = m + 1 := ⟨k - 1, by omega⟩
  have h8 := (right_len hr).1
  unfold chicaneref14_add.f addOf
  rw [if_pos hr]
  simp only [chicaneref09_Name.f, if_pos hs, Option.bind_some]
  by_cases hn : nameOk o2 = true
  · rw [if_pos hn, if_pos hn, rfindQ_is l (by omega) o2 (k + 1) (by omega), Option.bind_some]
    by_cases hp : 0 ≤ place (namesP l) o2
    · rw [if_pos hp, if_pos hp]
    · rw [if_neg hp, if_neg hp]
      have hj : ∀ q : Bool, chicaneref14_add.j0 (k + 1) l q o0 o1 o2 o3 o4 o5 o6 o7 o8 o9 o10 = some (if q then (l, 144) else if 8 ≤ l.length then (l, 143) else (insP ⟨o2, true, o1, []⟩ l, 0)) := by
        intro q
        simp only [chicaneref14_add.j0]
        cases q with
        | true => rfl
        | false =>
          show (if (l.length : Int) ≥ 8 then some (l, (143 : Int)) else (chicaneref14_put.f k l o2 true o1 []).bind fun t240 => some (t240, 0)) = some (if 8 ≤ l.length then (l, 143) else (insP ⟨o2, true, o1, []⟩ l, 0))
          by_cases h3 : 8 ≤ l.length
          · rw [if_pos (by omega), if_pos h3]
          · rw [if_neg (by omega), if_neg h3, rput_is l (by omega) _ _ _ _ k (by omega), Option.bind_some]
      by_cases h1 : o1 < 1
      · rw [if_pos h1, hj, if_pos rfl, if_neg (by simp [mayB]; omega)]
      · rw [if_neg h1, hj]
        by_cases h2 : o1 > 16
        · rw [decide_eq_true h2, if_pos rfl, if_neg (by simp [mayB]; omega)]
        · rw [decide_eq_false h2, if_neg (by simp), if_pos (show mayB o1 = true by simp [mayB]; omega)]
  · rw [if_neg hn, if_neg hn]
theorem rtox_j0 (x : S39) (h8 : x.f3.length ≤ 8) (o0 o1 : Int) (o2 o3 : ByteArray) (o4 : Bool) (o5 : ByteArray) (o6 : Int) (o7 : Bool) (o8 o9 o10 : Int) (s : ByteArray) (k : Nat) (hk : 20 ≤ k) :
    chicaneref14_toxics.j0 k x.f3 s o0 o1 o2 o3 o4 o5 o6 o7 o8 o9 o10 = some (
      if o0 = 3 then (if 0 ≤ place (namesT x.f3) s then (x.f3, 141) else if 8 ≤ x.f3.length then (x.f3, 143) else (x.f3 ++ [⟨o5, o6, o7, o8, o9, o10⟩], 0))
      else if place (namesT x.f3) s < 0 then (x.f3, 142) else if o0 = 4 then (x.f3.eraseIdx (place (namesT x.f3) s).toNat, 0)
      else if (x.f3.getD (place (namesT x.f3) s).toNat z24).f1 ≠ o6 ∨ (x.f3.getD (place (namesT x.f3) s).toNat z24).f2 ≠ o7 then (x.f3, 91)
      else (x.f3.set (place (namesT x.f3) s).toNat ⟨o5, o6, o7, o8, o9, o10⟩, 0)) := by
  obtain ⟨k, rfl⟩ : ∃ m, k = m + 1 := ⟨k - 1, by omega⟩
  simp only [chicaneref14_toxics.j0]
  rw [rfind_is x.f3 (by omega) s k (by omega), Option.bind_some]
  simp only [Option.bind_some, List.nil_append, List.length_nil, Nat.zero_add]
  by_cases h3 : o0 = 3
  · rw [if_pos h3, if_pos h3]
    by_cases hp : 0 ≤ place (namesT x.f3) s
    · rw [if_pos hp, if_pos hp]
    · rw [if_neg hp, if_neg hp]
      by_cases hl : 8 ≤ x.f3.length
      · rw [if_pos (by omega), if_pos hl]
      · rw [if_neg (by omega), if_neg hl, if_pos (by omega), if_pos (by simp; omega)]
  · rw [if_neg h3, if_neg h3]
    by_cases hp : place (namesT x.f3) s < 0
    · rw [if_pos hp, if_pos hp]
    · rw [if_neg hp, if_neg hp]
      have hpl : ∃ p : Nat, place (namesT x.f3) s = (p : Int) ∧ p < x.f3.length := by
        rcases place_spec (namesT x.f3) s with ⟨h1, _⟩ | ⟨p, h1, h2, _⟩
        · omega
        · exact ⟨p, h1, by have := (List.getElem?_eq_some_iff.1 h2).1; simpa [namesT] using this⟩
      obtain ⟨p, hpp, hlt⟩ := hpl
      rw [hpp]
      by_cases h4 : o0 = 4
      · rw [if_pos h4, if_pos h4, if_pos (by omega), if_pos (by omega), show wrap64 ((p : Int) + 1) = ((p + 1 : Nat) : Int) by rw [w64_in' _ (by omega) (by omega)]; rfl]
        simp only [Int.toNat_natCast]
        rw [if_pos (by rw [List.length_take]; omega), if_pos (by omega), if_pos (by omega), if_pos (by rw [List.length_take, List.length_drop]; omega), List.eraseIdx_eq_take_drop_succ]
      · rw [if_neg h4, if_neg h4, if_pos (by omega), if_pos (by omega), rdT_at x.f3 p hlt]
        simp only [Int.toNat_natCast]
        rw [show x.f3.getD p z24 = x.f3[p] by simp [List.getD_eq_getElem?_getD, hlt]]
        by_cases h1 : x.f3[p].f1 = o6
        · rw [if_pos h1]
          by_cases h2 : x.f3[p].f2 = o7
          · rw [if_neg (show ¬ (x.f3[p].f2 != o7) = true by simp [h2]), if_pos (by omega), if_pos (by omega), if_neg (show ¬ (x.f3[p].f1 ≠ o6 ∨ x.f3[p].f2 ≠ o7) by simp [h1, h2])]
          · rw [if_pos (by simpa using h2), if_pos (.inr h2)]
        · rw [if_neg h1, if_pos (.inl h1)]
def toxTo (o0 : Int) (o3 : ByteArray) (t : S24) : S39 → PT := if o0 = 3 then addT t else if o0 = 4 then dropT o3 else setT t
theorem rtoxics_is (x : S39) (h8 : x.f3.length ≤ 8) (o0 o1 : Int) (o2 o3 : ByteArray) (o4 : Bool) (o5 : ByteArray) (o6 : Int) (o7 : Bool) (o8 o9 o10 : Int) (hs : o5.size ≤ 9223372036854775807) (k : Nat) (hk : 20 ≤ k) :
    chicaneref14_toxics.f k x.f3 o0 o1 o2 o3 o4 o5 o6 o7 o8 o9 o10 = some ((toxTo o0 o3 ⟨o5, o6, o7, o8, o9, o10⟩ x).1.f3, (toxTo o0 o3 ⟨o5, o6, o7, o8, o9, o10⟩ x).2) := by
  unfold chicaneref14_toxics.f
  rw [rtox_j0 x h8 _ _ _ _ _ _ _ _ _ _ _ _ k hk, rtox_j0 x h8 _ _ _ _ _ _ _ _ _ _ _ _ k hk]
  simp only [chicaneref09_Check.f, if_pos hs, Option.bind_some]
  unfold toxTo
  have ha : checkOf o5 o6 o7 o8 o9 o10 = 0 → addT ⟨o5, o6, o7, o8, o9, o10⟩ x = if 0 ≤ place (namesT x.f3) o5 then (x, 141) else if 8 ≤ x.f3.length then (x, 143) else (⟨x.f0, x.f1, x.f2, x.f3 ++ [⟨o5, o6, o7, o8, o9, o10⟩]⟩, 0) := fun hc => by
    unfold addT
    rw [if_neg (show ¬ ckT ⟨o5, o6, o7, o8, o9, o10⟩ ≠ 0 from fun h => h hc)]
  have hb : checkOf o5 o6 o7 o8 o9 o10 = 0 → setT ⟨o5, o6, o7, o8, o9, o10⟩ x = if place (namesT x.f3) o5 < 0 then (x, 142) else if (x.f3.getD (place (namesT x.f3) o5).toNat z24).f1 ≠ o6 ∨ (x.f3.getD (place (namesT x.f3) o5).toNat z24).f2 ≠ o7 then (x, 91) else (⟨x.f0, x.f1, x.f2, x.f3.set (place (namesT x.f3) o5).toNat ⟨o5, o6, o7, o8, o9, o10⟩⟩, 0) := fun hc => by
    unfold setT
    rw [if_neg (show ¬ ckT ⟨o5, o6, o7, o8, o9, o10⟩ ≠ 0 from fun h => h hc)]
  by_cases h4 : o0 = 4
  · have h3 : ¬ o0 = 3 := by omega
    simp only [if_pos h4, if_neg h3]
    unfold dropT
    by_cases hp : place (namesT x.f3) o3 < 0
    · simp only [if_pos hp]
    · simp only [if_neg hp]
  · simp only [if_neg h4]
    by_cases hc : checkOf o5 o6 o7 o8 o9 o10 = 0
    · simp only [if_pos hc]
      by_cases h3 : o0 = 3
      · simp only [if_pos h3, ha hc]
        by_cases hp : 0 ≤ place (namesT x.f3) o5
        · simp only [if_pos hp]
        · simp only [if_neg hp]
          by_cases hl : 8 ≤ x.f3.length
          · simp only [if_pos hl]
          · simp only [if_neg hl]
      · simp only [if_neg h3, hb hc]
        by_cases hp : place (namesT x.f3) o5 < 0
        · simp only [if_pos hp]
        · simp only [if_neg hp]
          by_cases hk : (x.f3.getD (place (namesT x.f3) o5).toNat z24).f1 ≠ o6 ∨ (x.f3.getD (place (namesT x.f3) o5).toNat z24).f2 ≠ o7
          · simp only [if_pos hk]
          · simp only [if_neg hk]
    · simp only [if_neg hc]
      by_cases h3 : o0 = 3
      · simp only [if_pos h3]
        unfold addT
        rw [if_pos (show ckT ⟨o5, o6, o7, o8, o9, o10⟩ ≠ 0 from hc)]
        rfl
      · simp only [if_neg h3]
        unfold setT
        rw [if_pos (show ckT ⟨o5, o6, o7, o8, o9, o10⟩ ≠ 0 from hc)]
        rfl
theorem rdo_l0 (l : List S39) (hm : l.length ≤ 1000000) : ∀ (n i k : Nat), l.length - i = n → i ≤ l.length → n < k →
    chicaneref14_Do.l0 k ((l.take i).map resetP ++ l.drop i) (i : Int) = some (l.map resetP, 0) := by
  intro n
  induction n with
  | zero =>
    intro i k hn hi hk
    obtain ⟨k, rfl⟩ : ∃ m, k = m + 1 := ⟨k - 1, by omega⟩
    unfold chicaneref14_Do.l0
    rw [if_neg (by rw [List.length_append, List.length_map, List.length_take, List.length_drop]; omega), List.drop_eq_nil_of_le (by omega), List.take_of_length_le (by omega), List.append_nil]
  | succ n ih =>
    intro i k hn hi hk
    obtain ⟨k, rfl⟩ : ∃ m, k = m + 1 := ⟨k - 1, by omega⟩
    have hl : i < l.length := by omega
    have hA : ((l.take i).map resetP).length = i := by rw [List.length_map, List.length_take]; omega
    have ht : (l.take (i + 1)).map resetP ++ l.drop (i + 1) = (l.take i).map resetP ++ resetP l[i] :: l.drop (i + 1) := by
      rw [List.take_add_one, List.getElem?_eq_getElem hl]
      show ((l.take i ++ [l[i]]).map resetP) ++ _ = _
      rw [List.map_append, List.append_assoc]
      rfl
    have h1 := ih (i + 1) k (by omega) (by omega) (by omega)
    rw [ht] at h1
    unfold chicaneref14_Do.l0
    rw [List.drop_eq_getElem_cons hl]
    rw [if_pos (by rw [List.length_append, hA, List.length_cons, List.length_drop]; omega), if_pos (by omega), rd_mid _ _ _ i hA, Int.toNat_natCast, set_mid _ _ _ _ i hA, show wrap64 ((i : Int) + 1) = ((i + 1 : Nat) : Int) by rw [w64_in' _ (by omega) (by omega)]; rfl]
    exact h1
theorem toxTo_f (o0 : Int) (o3 : ByteArray) (t : S24) (x : S39) : (toxTo o0 o3 t x).1.f0 = x.f0 ∧ (toxTo o0 o3 t x).1.f1 = x.f1 ∧ (toxTo o0 o3 t x).1.f2 = x.f2 := by
  unfold toxTo
  split
  · unfold addT
    repeat' split
    all_goals exact ⟨rfl, rfl, rfl⟩
  · split
    · unfold dropT
      repeat' split
      all_goals exact ⟨rfl, rfl, rfl⟩
    · unfold setT
      repeat' split
      all_goals exact ⟨rfl, rfl, rfl⟩
theorem rdo_is (l : List S39) (hm : l.length ≤ 4611686018427387904) (hz : ∀ x ∈ l, szP x) (o0 o1 : Int) (h06 : 0 ≤ o0 ∧ o0 ≤ 6) (o2 o3 : ByteArray) (o4 : Bool) (o5 : ByteArray) (o6 : Int) (o7 : Bool) (o8 o9 o10 : Int) (hs2 : o2.size ≤ 9223372036854775807) (hs5 : o5.size ≤ 9223372036854775807) (k : Nat) (hk : l.length + 60 ≤ k) :
    chicaneref14_Do.f k l o0 o1 o2 o3 o4 o5 o6 o7 o8 o9 o10 = some (doOf l o0 o1 o2 o3 o4 ⟨o5, o6, o7, o8, o9, o10⟩) := by
  unfold chicaneref14_Do.f
  rw [rright_is l hm hz k (by omega), Option.bind_some]
  cases hr : rightB l with
  | false =>
    rw [if_neg Bool.false_ne_true]
    unfold doOf addOf dropOf changeOf resetOf
    rw [hr]
    simp only [Bool.false_eq_true, if_false]
    by_cases h6 : o0 = 6
    · subst h6; rfl
    · rw [if_neg h6]
      repeat' split
      all_goals first | rfl | omega
  | true =>
    have h8 := (right_len hr).1
    rw [if_pos rfl]
    by_cases h0 : o0 = 0
    · subst h0
      rw [if_pos rfl, radd_is hr _ _ _ _ _ _ _ _ _ _ _ hs2 k (by omega), Option.bind_some]
      rfl
    · rw [if_neg h0]
      simp only [Option.bind_some, List.nil_append, List.length_nil, Nat.zero_add]
      rw [if_pos (by omega)]
      by_cases h6 : o0 = 6
      · subst h6
        rw [if_pos rfl]
        have := rdo_l0 l (by omega) l.length 0 k (by omega) (by omega) (by omega)
        rw [List.take_zero, List.drop_zero, List.map_nil, List.nil_append] at this
        refine (show chicaneref14_Do.l0 k l 0 = _ from this).trans ?_
        unfold doOf resetOf
        rw [hr]
        rfl
      · rw [if_neg h6, rfindQ_is l (by omega) o2 k (by omega), Option.bind_some]
        by_cases hp : place (namesP l) o2 < 0
        · rw [if_pos hp]
          unfold doOf
          rw [if_neg h0]
          have hc : ∀ T, changeOf T l o2 = (l, 142) := fun T => change_no T hr hp
          by_cases h1 : o0 = 1
          · rw [if_pos h1]; unfold dropOf; rw [if_pos hr, if_pos hp]
          · rw [if_neg h1, hc, hc, hc, hc]
            repeat' split
            all_goals first | rfl | omega
        · rw [if_neg hp]
          obtain ⟨p, x, hpp, hx, hxs⟩ := place_at hp
          obtain ⟨hlt, hxe⟩ := List.getElem?_eq_some_iff.1 hx
          rw [hpp]
          by_cases h1 : o0 = 1
          · subst h1
            rw [if_pos rfl, if_pos (by omega), if_pos (by omega), show wrap64 ((p : Int) + 1) = ((p + 1 : Nat) : Int) by rw [w64_in' _ (by omega) (by omega)]; rfl]
            simp only [Int.toNat_natCast]
            rw [if_pos (by rw [List.length_take]; omega), if_pos (by omega), if_pos (by omega), if_pos (by rw [List.length_take, List.length_drop]; omega)]
            unfold doOf dropOf
            rw [if_neg (by decide), if_pos rfl, if_pos hr, if_neg hp, hpp, Int.toNat_natCast, List.eraseIdx_eq_take_drop_succ]
          · rw [if_neg h1]
            by_cases h2 : o0 = 2
            · subst h2
              rw [if_pos rfl, if_pos (by omega), if_pos (by omega), rdP_at l p hlt, Int.toNat_natCast, hxe]
              unfold doOf
              rw [if_neg (by decide), if_neg (by decide), if_pos rfl, change_at _ hr hpp hx]
              rfl
            · rw [if_neg h2, if_pos (by omega), if_pos (by omega), rdP_at l p hlt, Int.toNat_natCast, hxe]
              have hx8 := chk_len ((right_len hr).2 x (List.mem_of_getElem? hx))
              rw [rtoxics_is x hx8 _ _ _ _ _ _ _ _ _ _ _ hs5 k (by omega), Option.bind_some]
              have hd : doOf l o0 o1 o2 o3 o4 ⟨o5, o6, o7, o8, o9, o10⟩ = changeOf (toxTo o0 o3 ⟨o5, o6, o7, o8, o9, o10⟩) l o2 := by
                unfold doOf toxTo
                rw [if_neg h0, if_neg h1, if_neg h2]
                by_cases h3 : o0 = 3
                · rw [if_pos h3, if_pos h3]
                · rw [if_neg h3, if_neg h3]
                  by_cases h4 : o0 = 4
                  · rw [if_pos h4, if_pos h4]
                  · rw [if_neg h4, if_neg h4, if_pos (by omega)]
              rw [hd, change_at _ hr hpp hx]
              obtain ⟨e0, e1, e2⟩ := toxTo_f o0 o3 ⟨o5, o6, o7, o8, o9, o10⟩ x
              rw [← e0, ← e1, ← e2]
theorem chk_on (on : Bool) (x : S39) (h : chkP x = 0) : chkP ⟨x.f0, on, x.f2, x.f3⟩ = 0 := h
theorem right_change (T : S39 → PT) (hT : ∀ x, chkP x = 0 → (T x).1.f0 = x.f0 ∧ chkP (T x).1 = 0) {l : List S39} (h : rightB l = true) (s : ByteArray) : rightB (changeOf T l s).1 = true := by
  by_cases hp : place (namesP l) s < 0
  · rw [change_no T h hp]; exact h
  · obtain ⟨k, x, hk, hx, hs⟩ := place_at hp
    rw [change_at T h hk hx]
    have h2 := hT x ((right_len h).2 x (List.mem_of_getElem? hx))
    exact right_set h hx h2.1 h2.2
theorem addT_err (t : S24) (x : S39) (h : (addT t x).2 ≠ 0) : (addT t x).1 = x := by
  unfold addT at h ⊢
  repeat' split
  all_goals first | rfl | (rename_i h1 h2 h3; rw [if_neg h1, if_neg h2, if_neg h3] at h; exact absurd rfl h)
theorem addT_chk (t : S24) (x : S39) (hx : chkP x = 0) : (addT t x).1.f0 = x.f0 ∧ chkP (addT t x).1 = 0 := by
  by_cases h : (addT t x).2 = 0
  · have := addT_ok hx h
    rw [this.1]
    exact ⟨rfl, this.2.1⟩
  · rw [addT_err t x h]
    exact ⟨rfl, hx⟩
theorem dropT_chk (s : ByteArray) (x : S39) (hx : chkP x = 0) : (dropT s x).1.f0 = x.f0 ∧ chkP (dropT s x).1 = 0 := by
  unfold dropT
  split
  · exact ⟨rfl, hx⟩
  · refine ⟨rfl, ?_⟩
    obtain ⟨a, b, c, d, e, f⟩ := (chk_iff x).1 hx
    refine (chk_iff _).2 ⟨a, b, c, ?_, fun u hu => e u (List.mem_of_mem_eraseIdx hu), ?_⟩
    · have := List.length_eraseIdx_le x.f3 (place (namesT x.f3) s).toNat
      show (x.f3.eraseIdx _).length ≤ 8
      omega
    · unfold namesT
      exact ((List.eraseIdx_sublist _ _).map _).nodup f
theorem set_same {α : Type} {l : List α} {k : Nat} {x : α} (h : l[k]? = some x) : l.set k x = l := by
  obtain ⟨hk, he⟩ := List.getElem?_eq_some_iff.1 h
  rw [← he]
  exact List.set_getElem_self hk
theorem setT_chk (t : S24) (x : S39) (hx : chkP x = 0) : (setT t x).1.f0 = x.f0 ∧ chkP (setT t x).1 = 0 := by
  unfold setT
  by_cases h1 : ckT t ≠ 0
  · rw [if_pos h1]; exact ⟨rfl, hx⟩
  · rw [if_neg h1]
    by_cases h2 : place (namesT x.f3) t.f0 < 0
    · rw [if_pos h2]; exact ⟨rfl, hx⟩
    · rw [if_neg h2]
      split
      · exact ⟨rfl, hx⟩
      · refine ⟨rfl, ?_⟩
        obtain ⟨a, b, c, d, e, f⟩ := (chk_iff x).1 hx
        have hnm : namesT (x.f3.set (place (namesT x.f3) t.f0).toNat t) = namesT x.f3 := by
          rcases place_spec (namesT x.f3) t.f0 with ⟨h3, _⟩ | ⟨p, h3, h4, _⟩
          · omega
          · rw [h3, Int.toNat_natCast]
            have h4' := h4
            unfold namesT at h4 ⊢
            rw [List.map_set]
            exact set_same h4
        refine (chk_iff _).2 ⟨a, b, c, by rw [List.length_set]; exact d, fun u hu => ?_, by rw [hnm]; exact f⟩
        rcases List.mem_or_eq_of_mem_set hu with hu | hu
        · exact e u hu
        · rw [hu]; exact Classical.not_not.1 h1
theorem right_reset {l : List S39} (h : rightB l = true) : rightB (l.map resetP) = true := by
  obtain ⟨h1, h2, h3⟩ := (right_iff l).1 h
  refine (right_iff _).2 ⟨fun x hx => ?_, ?_, by rw [List.length_map]; exact h3⟩
  · obtain ⟨y, hy, rfl⟩ := List.mem_map.1 hx
    obtain ⟨a, b, c, d, e, f⟩ := (chk_iff y).1 (h1 y hy)
    exact (chk_iff _).2 ⟨a, b, c, by simp [resetP], by simp [resetP], by simp [resetP, namesT]⟩
  · rw [show namesP (l.map resetP) = namesP l by simp [namesP, resetP, Function.comp_def]]
    exact h2
theorem right_drop {l : List S39} (h : rightB l = true) (j : Nat) : rightB (l.eraseIdx j) = true := by
  obtain ⟨h1, h2, h3⟩ := (right_iff l).1 h
  refine (right_iff _).2 ⟨fun x hx => h1 x (List.mem_of_mem_eraseIdx hx), ?_, Nat.le_trans (List.length_eraseIdx_le _ _) h3⟩
  unfold namesP at h2 ⊢
  exact h2.sublist ((List.eraseIdx_sublist _ _).map _)
theorem right_do {l : List S39} (h : rightB l = true) (k n : Int) (s t : ByteArray) (on : Bool) (tx : S24) : rightB (doOf l k n s t on tx).1 = true := by
  unfold doOf
  split
  · by_cases h0 : (addOf l s n).2 = 0
    · obtain ⟨e, hn, hc, hl⟩ := add_ok h h0
      rw [e]
      exact right_ins h hn hc hl
    · unfold addOf at h0 ⊢
      rw [if_pos h] at h0 ⊢
      repeat' split
      all_goals first | exact h | (rename_i h1 h2 h3 h4; rw [if_pos h1, if_neg h2, if_pos h3, if_neg h4] at h0; exact absurd rfl h0)
  · split
    · unfold dropOf
      rw [if_pos h]
      split
      · exact h
      · exact right_drop h _
    · split
      · exact right_change _ (fun x hx => ⟨rfl, chk_on on x hx⟩) h s
      · split
        · exact right_change _ (addT_chk tx) h s
        · split
          · exact right_change _ (dropT_chk t) h s
          · split
            · exact right_change _ (setT_chk tx) h s
            · unfold resetOf
              rw [if_pos h]
              exact right_reset h
theorem need_low {l : List S39} (n m : Nat) (h : l.length ≤ n) (h2 : ∀ x ∈ l, x.f3.length ≤ m) : needP l ≤ n * (m + 4) := by
  have : ∀ l : List S39, (∀ x ∈ l, x.f3.length ≤ m) → needP l ≤ l.length * (m + 4) := by
    intro l
    induction l with
    | nil => intro _; simp [needP]
    | cons x r ih =>
      intro hx
      have h3 := ih (fun y hy => hx y (List.mem_cons_of_mem _ hy))
      have h4 := hx x (List.mem_cons_self ..)
      unfold needP at h3 ⊢
      rw [List.map_cons, List.sum_cons, List.length_cons, Nat.succ_mul]
      omega
  exact Nat.le_trans (this l h2) (Nat.mul_le_mul_right _ h)
theorem same_self {l : List S39} (h : l.length ≤ 12) (h2 : ∀ x ∈ l, x.f3.length ≤ 12) (k : Nat) (hk : 200 ≤ k) : chicaneref14_Same.f k l l = some true := by
  have := need_low 12 12 h h2
  rw [rsame_is l l (by omega) (fun x hx => by have := h2 x hx; omega) k (by omega), (eqPL_iff _ _).2 rfl]
theorem kind_at {o0 o1 : Int} {o2 o3 : ByteArray} {o4 : Bool} {o5 : ByteArray} {o6 : Int} {o7 : Bool} {o8 o9 o10 : Int} (h : chicanelaw14_kind.f o0 o1 o2 o3 o4 o5 o6 o7 o8 o9 o10 = some true) : (0 ≤ o0 ∧ o0 ≤ 6) ∧ o2.size ≤ 100 ∧ o5.size ≤ 100 ∧ o3.size ≤ 100 := by
  unfold chicanelaw14_kind.f at h
  repeat' split at h
  all_goals simp at h
  all_goals omega
theorem kind_some (o0 o1 : Int) (o2 o3 : ByteArray) (o4 : Bool) (o5 : ByteArray) (o6 : Int) (o7 : Bool) (o8 o9 o10 : Int) : ∃ b, chicanelaw14_kind.f o0 o1 o2 o3 o4 o5 o6 o7 o8 o9 o10 = some b := by
  unfold chicanelaw14_kind.f
  repeat' split
  all_goals exact ⟨_, rfl⟩
end Go.Proofs.YtlglbpjccpdloaaGreat.Ext
namespace Go.Proofs.YtlglbpjccpdloaaGreat.PNamA
open Go.Proofs.YtlglbpjccpdloaaGreat.Ext Go.Proofs.YtlglbpjccpdloaaGreat.ToxZ Go.RowKit Go.Proofs.YtlglbpjccpdloaaGreatW.PrintWords Go.Proofs.YtlglbpjccpdloaaGreatW.PrintLast Go.Proofs.YtlglbpjccpdloaaGreatW.PrintMore Go.Proofs.YtlglbpjccpdloaaGreat.Sq
attribute [local go_sem] max2_int min2_int max_two min_two max_three min_three max_four min_four   -- for this text's walks alone
set_option linter.unusedVariables false
set_option linter.unusedSimpArgs false
def chicanelaw14_NamesScripts.l0 : Nat → List (S39) → List (S39) → List (S26) → Int → Int → Option (Bool)
 | 0, _, _, _, _, _ => none
 | k + 1, x3, x4, x15, x16, x17 => if x17 < x16 then (if 0 ≤ x17 then (if x17 < (x15.length : Int) then ((chicanelaw14_kind.f ((rd_T26 x15 x17).f0) ((rd_T26 x15 x17).f1) ((rd_T26 x15 x17).f2) ((rd_T26 x15 x17).f3) ((rd_T26 x15 x17).f4) ((rd_T26 x15 x17).f5.f0) ((rd_T26 x15 x17).f5.f1) ((rd_T26 x15 x17).f5.f2) ((rd_T26 x15 x17).f5.f3) ((rd_T26 x15 x17).f5.f4) ((rd_T26 x15 x17).f5.f5)).bind fun t357 => (if t357 = true then ((chicanelaw14_does.f k x3 ((rd_T26 x15 x17).f0) ((rd_T26 x15 x17).f1) ((rd_T26 x15 x17).f2) ((rd_T26 x15 x17).f3) ((rd_T26 x15 x17).f4) ((rd_T26 x15 x17).f5.f0) ((rd_T26 x15 x17).f5.f1) ((rd_T26 x15 x17).f5.f2) ((rd_T26 x15 x17).f5.f3) ((rd_T26 x15 x17).f5.f4) ((rd_T26 x15 x17).f5.f5)).bind fun bt359 => ((chicaneref14_Do.f k x4 ((rd_T26 x15 x17).f0) ((rd_T26 x15 x17).f1) ((rd_T26 x15 x17).f2) ((rd_T26 x15 x17).f3) ((rd_T26 x15 x17).f4) ((rd_T26 x15 x17).f5.f0) ((rd_T26 x15 x17).f5.f1) ((rd_T26 x15 x17).f5.f2) ((rd_T26 x15 x17).f5.f3) ((rd_T26 x15 x17).f5.f4) ((rd_T26 x15 x17).f5.f5)).bind fun bt363 => ((chicaneref14_Same.f k bt359.1 bt363.1).bind fun t367 => (if t367 = true then (if bt359.2 = bt363.2 then ((names_Right.f k bt359.1).bind fun t368 => (if t368 = true then (chicanelaw14_NamesScripts.l0 k bt359.1 bt363.1 x15 x16 (wrap64 (x17 + 1))) else (some false))) else (some false)) else (some false))))) else ((chicanelaw14_alive.f k).bind fun t358 => (some t358)))) else (none)) else (none)) else ((chicanelaw14_alive.f k).bind fun t354 => (some t354))
def chicanelaw14_NamesScripts.f (k : Nat) (l0 : List (S26)) : Option (Bool) := if (l0.length : Int) > 60 then ((chicanelaw14_alive.f k).bind fun t353 => (some t353)) else (chicanelaw14_NamesScripts.l0 k ([] : List (S39)) ([] : List (S39)) l0 (l0.length : Int) 0)
set_option maxHeartbeats 8000000 in
set_option maxRecDepth 100000 in
theorem chicanelaw14_NamesScripts.calls (k : Nat) (A0 : Option Addr) (c0 : Nat) (l0 : List (S26)) (r : Bool) (w : World) (hr0 : Kd.C k26 w A0 l0.length l0) (hc0 : l0.length ≤ c0) (hr : r = true) (h : chicanelaw14_NamesScripts.f k l0 = some r) :
  Calls Tryz.prog 4 #[.slice A0 l0.length c0] w fun e w' => e = .returned (.bool r) ∧ Below w.heap.size w w' := by
 have hu26 := Tryz.underlying26
 have HR0 := Aside0.mk hr0
 have HC0 := Aside0.mk hc0
 clear hr0 hc0
 have HB := Aside0.mk (Below.refl w.heap.size w)
 have H : (if (l0.length : Int) > 60 then ((chicanelaw14_alive.f k).bind fun t353 => (some t353)) else (chicanelaw14_NamesScripts.l0 k ([] : List (S39)) ([] : List (S39)) l0 (l0.length : Int) 0)) = some r := h
 clear h
 by_cases c2 : (l0.length : Int) > 60
 ·rw [if_pos c2] at H
  have c2b0 : decide (60 < (l0.length : Int)) = true := decide_eq_true c2
  have c2b1 : decide (60 < l0.length) = true := decide_eq_true (by omega)
  clear c2
  replace H := Option.bind_eq_some_iff.mp H
  obtain ⟨t353, A30, H⟩ := H
  replace H : (some t353) = some r := H
  have A3 := Aside0.mk A30
  clear A30
  obtain rfl := Option.some.inj H
  go_enter Tryz.func4, Tryz.ntmps4
  go_wp2_with (first | ((with_reducible refine gate_callee (f := 8) rfl ?_); refine goesL_ (some 14) rfl rfl Tryz.func8 qr rfl #[] rfl qG ?_; (with_reducible refine (chicanelaw14_alive.calls k  t353 _ A3.out).mono ?_); rintro e w4 ⟨rfl, hb⟩; refine ⟨_, rfl, ?_⟩; replace HB := Aside0.mk (below_step (qB HB.out) hb); (try clear hb); (try clear hb2); (try clear hk); (try clear hi)))
  go_ret
  exact ⟨qE, by repeat (first | (with_reducible first | exact HB.out | apply below_alloc | apply pw_below_drewN | apply below_drew1) | exact HB.out)⟩
 ·rw [if_neg c2] at H
  have c2b0 : decide (60 < (l0.length : Int)) = false := decide_eq_false c2
  have c2b1 : decide (60 < l0.length) = false := decide_eq_false (by omega)
  clear c2
  have H' := Aside0.mk H
  clear H
  go_enter Tryz.func4, Tryz.ntmps4
  go_wp2
  go_loopg [3, 4, 17] k (fun kq v3 v4 v17 w' => ∃ (x3_1 : List (S39)) (x4_1 : List (S39)) (x17_1 : Int), v17 = .int .i64 x17_1 ∧ Aside0 (chicanelaw14_NamesScripts.l0 kq x3_1 x4_1 l0 (l0.length : Int) x17_1 = some r) ∧ Aside0 (kq ≤ k) ∧ Aside0 (Kd.S k39 39 w' w.heap.size (fun _ => True) v3 x3_1) ∧ Aside0 (Kd.V k39 39 w' w.heap.size (fun k_ => some k_ ≠ (v3 : Value).ownBlock) v4 x4_1) ∧ Aside0 (Below w.heap.size w w'))
  case atStart => exact ⟨(([] : List (S39))), (([] : List (S39))), (0), qE1, H', ⟨Nat.le_refl _⟩, ⟨by first | exact Kd.S_nil _ _ _ _ _ | exact Kd.N_nil _ _ _ _ _ | exact Kd.V_nil _ _ _ _ _ | exact Kd.Q_nil _ _ _ _ _ | exact Kd.R_nil _ _ _ _ _⟩, ⟨(by first | exact Kd.V_nil _ _ _ _ _ | exact Kd.S_nil _ _ _ _ _ | exact Kd.N_nil _ _ _ _ _ | exact Kd.V_nil _ _ _ _ _ | exact Kd.Q_nil _ _ _ _ _ | exact Kd.R_nil _ _ _ _ _)⟩, ⟨by repeat (first | (with_reducible first | exact HB.out | apply below_alloc | apply pw_below_drewN | apply below_drew1) | exact HB.out)⟩⟩
  case round =>
   clear H'
   try clear c2
   try clear c2b0
   try clear c2b1
   try clear p2
   try clear c4
   obtain ⟨x3_1, x4_1, x17_1, rfl, HA, HK1, HO_3, HO_4, HB⟩ := hrel
   cases gk with
   | zero => exact absurd HA.out (by simp [chicanelaw14_NamesScripts.l0])
   | succ k1 =>
    have H := HA.out
    clear HA
    simp only [chicanelaw14_NamesScripts.l0] at H
    by_cases c5 : x17_1 < (l0.length : Int)
    ·rw [if_pos c5] at H
     have c5b0 : decide (x17_1 < (l0.length : Int)) = true := decide_eq_true c5
     clear c5
     by_cases c6 : 0 ≤ x17_1
     ·rw [if_pos c6] at H
      have c6b0 : decide (0 ≤ x17_1) = true := decide_eq_true c6
      clear c6
      by_cases c7 : x17_1 < (l0.length : Int)
      ·rw [if_pos c7] at H
       have c7b0 : decide (x17_1 < (l0.length : Int)) = true := decide_eq_true c7
       clear c7
       replace H := Option.bind_eq_some_iff.mp H
       obtain ⟨t357, A80, H⟩ := H
       replace H : (if t357 = true then ((chicanelaw14_does.f k1 x3_1 ((rd_T26 l0 x17_1).f0) ((rd_T26 l0 x17_1).f1) ((rd_T26 l0 x17_1).f2) ((rd_T26 l0 x17_1).f3) ((rd_T26 l0 x17_1).f4) ((rd_T26 l0 x17_1).f5.f0) ((rd_T26 l0 x17_1).f5.f1) ((rd_T26 l0 x17_1).f5.f2) ((rd_T26 l0 x17_1).f5.f3) ((rd_T26 l0 x17_1).f5.f4) ((rd_T26 l0 x17_1).f5.f5)).bind fun bt359 => ((chicaneref14_Do.f k1 x4_1 ((rd_T26 l0 x17_1).f0) ((rd_T26 l0 x17_1).f1) ((rd_T26 l0 x17_1).f2) ((rd_T26 l0 x17_1).f3) ((rd_T26 l0 x17_1).f4) ((rd_T26 l0 x17_1).f5.f0) ((rd_T26 l0 x17_1).f5.f1) ((rd_T26 l0 x17_1).f5.f2) ((rd_T26 l0 x17_1).f5.f3) ((rd_T26 l0 x17_1).f5.f4) ((rd_T26 l0 x17_1).f5.f5)).bind fun bt363 => ((chicaneref14_Same.f k1 bt359.1 bt363.1).bind fun t367 => (if t367 = true then (if bt359.2 = bt363.2 then ((names_Right.f k1 bt359.1).bind fun t368 => (if t368 = true then (chicanelaw14_NamesScripts.l0 k1 bt359.1 bt363.1 l0 (l0.length : Int) (wrap64 (x17_1 + 1))) else (some false))) else (some false)) else (some false))))) else ((chicanelaw14_alive.f k1).bind fun t358 => (some t358))) = some r := H
       have A8 := Aside0.mk A80
       clear A80
       by_cases c9 : t357 = true
       ·subst c9
        have H1 : ((chicanelaw14_does.f k1 x3_1 ((rd_T26 l0 x17_1).f0) ((rd_T26 l0 x17_1).f1) ((rd_T26 l0 x17_1).f2) ((rd_T26 l0 x17_1).f3) ((rd_T26 l0 x17_1).f4) ((rd_T26 l0 x17_1).f5.f0) ((rd_T26 l0 x17_1).f5.f1) ((rd_T26 l0 x17_1).f5.f2) ((rd_T26 l0 x17_1).f5.f3) ((rd_T26 l0 x17_1).f5.f4) ((rd_T26 l0 x17_1).f5.f5)).bind fun bt359 => ((chicaneref14_Do.f k1 x4_1 ((rd_T26 l0 x17_1).f0) ((rd_T26 l0 x17_1).f1) ((rd_T26 l0 x17_1).f2) ((rd_T26 l0 x17_1).f3) ((rd_T26 l0 x17_1).f4) ((rd_T26 l0 x17_1).f5.f0) ((rd_T26 l0 x17_1).f5.f1) ((rd_T26 l0 x17_1).f5.f2) ((rd_T26 l0 x17_1).f5.f3) ((rd_T26 l0 x17_1).f5.f4) ((rd_T26 l0 x17_1).f5.f5)).bind fun bt363 => ((chicaneref14_Same.f k1 bt359.1 bt363.1).bind fun t367 => (if t367 = true then (if bt359.2 = bt363.2 then ((names_Right.f k1 bt359.1).bind fun t368 => (if t368 = true then (chicanelaw14_NamesScripts.l0 k1 bt359.1 bt363.1 l0 (l0.length : Int) (wrap64 (x17_1 + 1))) else (some false))) else (some false)) else (some false))))) = some r := by rw [if_pos rfl] at H; exact H
        clear H
        have H := H1
        clear H1
        replace H := Option.bind_eq_some_iff.mp H
        obtain ⟨⟨t359, t362⟩, A100, H⟩ := H
        replace H : ((chicaneref14_Do.f k1 x4_1 ((rd_T26 l0 x17_1).f0) ((rd_T26 l0 x17_1).f1) ((rd_T26 l0 x17_1).f2) ((rd_T26 l0 x17_1).f3) ((rd_T26 l0 x17_1).f4) ((rd_T26 l0 x17_1).f5.f0) ((rd_T26 l0 x17_1).f5.f1) ((rd_T26 l0 x17_1).f5.f2) ((rd_T26 l0 x17_1).f5.f3) ((rd_T26 l0 x17_1).f5.f4) ((rd_T26 l0 x17_1).f5.f5)).bind fun bt363 => ((chicaneref14_Same.f k1 t359 bt363.1).bind fun t367 => (if t367 = true then (if t362 = bt363.2 then ((names_Right.f k1 t359).bind fun t368 => (if t368 = true then (chicanelaw14_NamesScripts.l0 k1 t359 bt363.1 l0 (l0.length : Int) (wrap64 (x17_1 + 1))) else (some false))) else (some false)) else (some false)))) = some r := H
        have A10 := Aside0.mk A100
        clear A100
        replace H := Option.bind_eq_some_iff.mp H
        obtain ⟨⟨t363, t366⟩, A110, H⟩ := H
        replace H : ((chicaneref14_Same.f k1 t359 t363).bind fun t367 => (if t367 = true then (if t362 = t366 then ((names_Right.f k1 t359).bind fun t368 => (if t368 = true then (chicanelaw14_NamesScripts.l0 k1 t359 t363 l0 (l0.length : Int) (wrap64 (x17_1 + 1))) else (some false))) else (some false)) else (some false))) = some r := H
        have A11 := Aside0.mk A110
        clear A110
        replace H := Option.bind_eq_some_iff.mp H
        obtain ⟨t367, A120, H⟩ := H
        replace H : (if t367 = true then (if t362 = t366 then ((names_Right.f k1 t359).bind fun t368 => (if t368 = true then (chicanelaw14_NamesScripts.l0 k1 t359 t363 l0 (l0.length : Int) (wrap64 (x17_1 + 1))) else (some false))) else (some false)) else (some false)) = some r := H
        have A12 := Aside0.mk A120
        clear A120
        by_cases c13 : t367 = true
        ·subst c13
         have H1 : (if t362 = t366 then ((names_Right.f k1 t359).bind fun t368 => (if t368 = true then (chicanelaw14_NamesScripts.l0 k1 t359 t363 l0 (l0.length : Int) (wrap64 (x17_1 + 1))) else (some false))) else (some false)) = some r := by rw [if_pos rfl] at H; exact H
         clear H
         have H := H1
         clear H1
         by_cases c14 : t362 = t366
         ·rw [if_pos c14] at H
          have c14b0 : (t362 == t366) = true := beq_iff_eq.mpr c14
          have c14b1 : (t362 != t366) = false := bne_eq_false_iff_eq.mpr c14
          clear c14
          replace H := Option.bind_eq_some_iff.mp H
          obtain ⟨t368, A150, H⟩ := H
          replace H : (if t368 = true then (chicanelaw14_NamesScripts.l0 k1 t359 t363 l0 (l0.length : Int) (wrap64 (x17_1 + 1))) else (some false)) = some r := H
          have A15 := Aside0.mk A150
          clear A150
          by_cases c16 : t368 = true
          ·subst c16
           have H1 : (chicanelaw14_NamesScripts.l0 k1 t359 t363 l0 (l0.length : Int) (wrap64 (x17_1 + 1))) = some r := by rw [if_pos rfl] at H; exact H
           clear H
           have H := H1
           clear H1
           have H' := Aside0.mk H
           clear H
           have p355 : 0 ≤ (x17_1 : Int) := of_decide_eq_true qA
           have q355 : x17_1 < (l0.length : Int) := of_decide_eq_true qA
           obtain ⟨ad355, e355, hx355_0, hx355_1, hx355_2, hx355_3, hx355_4, hx355_5, hx355_6, hx355_7, hx355_8, hx355_9, hx355_10⟩ := at_T26 HR0.out x17_1 p355 q355
           cases e355
           replace hx355_0 := (HB.out.cell (World.block_lt_of_cell? w _ hx355_0)).trans hx355_0
           replace hx355_1 := (HB.out.cell (World.block_lt_of_cell? w _ hx355_1)).trans hx355_1
           replace hx355_2 := (HB.out.cell (World.block_lt_of_cell? w _ hx355_2)).trans hx355_2
           replace hx355_3 := (HB.out.cell (World.block_lt_of_cell? w _ hx355_3)).trans hx355_3
           replace hx355_4 := (HB.out.cell (World.block_lt_of_cell? w _ hx355_4)).trans hx355_4
           replace hx355_5 := (HB.out.cell (World.block_lt_of_cell? w _ hx355_5)).trans hx355_5
           replace hx355_6 := (HB.out.cell (World.block_lt_of_cell? w _ hx355_6)).trans hx355_6
           replace hx355_7 := (HB.out.cell (World.block_lt_of_cell? w _ hx355_7)).trans hx355_7
           replace hx355_8 := (HB.out.cell (World.block_lt_of_cell? w _ hx355_8)).trans hx355_8
           replace hx355_9 := (HB.out.cell (World.block_lt_of_cell? w _ hx355_9)).trans hx355_9
           replace hx355_10 := (HB.out.cell (World.block_lt_of_cell? w _ hx355_10)).trans hx355_10
           replace p355 := eq_true p355
           replace q355 := eq_true q355
           go_wp2_with (first | ((with_reducible refine gate_dst (N := 6) rfl ?_); refine box_event ?hg (N := 6) ?hd (cs := #[.int .i64 0, .int .i64 0, .string (⟨#[]⟩ : ByteArray), .string (⟨#[]⟩ : ByteArray), .bool false, .string (⟨#[]⟩ : ByteArray), .int .i64 0, .bool false, .int .i64 0, .int .i64 0, .int .i64 0]) (t := 26) ?hr ?_; (case hd => rfl); (case hg => rfl); (case hr => first | (go_simp; done) | (go_simp; rfl)); intro gb356 hg w17 hbox hb; have n0_ := Aside0.mk (Kd.S_below (qS HO_3.out) hb); have n1_ := Aside0.mk (Kd.V_below (Kd.V_elderB (qV HO_4.out) gb356 (Nat.le_of_eq hg.symm)) hb); have n2_ := Aside0.mk (below_step (qB HB.out) hb); have n3_ := Aside0.mk (hbox); have n4_ := Aside0.mk ((qs hg (below_size (qB HB.out)) : w.heap.size ≤ gb356)); have n5_ := Aside0.mk ((qs hg (below_size (qB HB.out)) : w.heap.size ≤ gb356)); clear HO_3 HO_4 HB; have HO_3 := n0_; have HO_4 := n1_; have HB := n2_; have BK356 := n3_; have GW356 := n4_; have GE356 := n5_; clear n0_ n1_ n2_ n3_ n4_ n5_ hb hbox hg; have hcz18 := qC11 BK356.out) | ((with_reducible refine gate_callee (f := 7) rfl ?_); refine goesL_ (some 22) rfl rfl Tryz.func7 qr rfl #[.agg #[.int .i64 ((rd_T26 l0 x17_1).f0), .int .i64 ((rd_T26 l0 x17_1).f1), .string ((rd_T26 l0 x17_1).f2), .string ((rd_T26 l0 x17_1).f3), .bool ((rd_T26 l0 x17_1).f4), .string ((rd_T26 l0 x17_1).f5.f0), .int .i64 ((rd_T26 l0 x17_1).f5.f1), .bool ((rd_T26 l0 x17_1).f5.f2), .int .i64 ((rd_T26 l0 x17_1).f5.f3), .int .i64 ((rd_T26 l0 x17_1).f5.f4), .int .i64 ((rd_T26 l0 x17_1).f5.f5)]] rfl qG ?_; (with_reducible refine (chicanelaw14_kind.calls ((rd_T26 l0 x17_1).f0) ((rd_T26 l0 x17_1).f1) ((rd_T26 l0 x17_1).f2) ((rd_T26 l0 x17_1).f3) ((rd_T26 l0 x17_1).f4) ((rd_T26 l0 x17_1).f5.f0) ((rd_T26 l0 x17_1).f5.f1) ((rd_T26 l0 x17_1).f5.f2) ((rd_T26 l0 x17_1).f5.f3) ((rd_T26 l0 x17_1).f5.f4) ((rd_T26 l0 x17_1).f5.f5) true _ A8.out).mono ?_); rintro e w19 ⟨rfl, hb⟩; refine ⟨_, rfl, ?_⟩; replace HO_3 := Aside0.mk (Kd.S_below (qS ((Kd.S_mono (Kd.S_far (p := ⟨gb356, 10, none⟩) (Kd.S_far (p := ⟨gb356, 9, none⟩) (Kd.S_far (p := ⟨gb356, 8, none⟩) (Kd.S_far (p := ⟨gb356, 7, none⟩) (Kd.S_far (p := ⟨gb356, 6, none⟩) (Kd.S_far (p := ⟨gb356, 5, none⟩) (Kd.S_far (p := ⟨gb356, 4, none⟩) (Kd.S_far (p := ⟨gb356, 3, none⟩) (Kd.S_far (p := ⟨gb356, 2, none⟩) (Kd.S_far (p := ⟨gb356, 1, none⟩) (Kd.S_far (p := ⟨gb356, 0, none⟩) (Kd.S_types HO_3.out BK356.out (by decide)) (fun _ hk => hk.2) (.int .i64 ((rd_T26 l0 x17_1).f0))) (fun _ hk => hk.2) (.int .i64 ((rd_T26 l0 x17_1).f1))) (fun _ hk => hk.2) (.string ((rd_T26 l0 x17_1).f2))) (fun _ hk => hk.2) (.string ((rd_T26 l0 x17_1).f3))) (fun _ hk => hk.2) (.bool ((rd_T26 l0 x17_1).f4))) (fun _ hk => hk.2) (.string ((rd_T26 l0 x17_1).f5.f0))) (fun _ hk => hk.2) (.int .i64 ((rd_T26 l0 x17_1).f5.f1))) (fun _ hk => hk.2) (.bool ((rd_T26 l0 x17_1).f5.f2))) (fun _ hk => hk.2) (.int .i64 ((rd_T26 l0 x17_1).f5.f3))) (fun _ hk => hk.2) (.int .i64 ((rd_T26 l0 x17_1).f5.f4))) (fun _ hk => hk.2) (.int .i64 ((rd_T26 l0 x17_1).f5.f5))) (fun _ h_ => h_.1)))) hb); replace HO_4 := Aside0.mk (Kd.V_below (qV ((Kd.V_mono (Kd.V_far (p := ⟨gb356, 10, none⟩) (Kd.V_far (p := ⟨gb356, 9, none⟩) (Kd.V_far (p := ⟨gb356, 8, none⟩) (Kd.V_far (p := ⟨gb356, 7, none⟩) (Kd.V_far (p := ⟨gb356, 6, none⟩) (Kd.V_far (p := ⟨gb356, 5, none⟩) (Kd.V_far (p := ⟨gb356, 4, none⟩) (Kd.V_far (p := ⟨gb356, 3, none⟩) (Kd.V_far (p := ⟨gb356, 2, none⟩) (Kd.V_far (p := ⟨gb356, 1, none⟩) (Kd.V_far (p := ⟨gb356, 0, none⟩) (Kd.V_mono HO_4.out (fun k_ hk => (⟨hk, hk.2⟩ : _ ∧ k_ ≠ gb356))) (fun _ hk => hk.2) (.int .i64 ((rd_T26 l0 x17_1).f0))) (fun _ hk => hk.2) (.int .i64 ((rd_T26 l0 x17_1).f1))) (fun _ hk => hk.2) (.string ((rd_T26 l0 x17_1).f2))) (fun _ hk => hk.2) (.string ((rd_T26 l0 x17_1).f3))) (fun _ hk => hk.2) (.bool ((rd_T26 l0 x17_1).f4))) (fun _ hk => hk.2) (.string ((rd_T26 l0 x17_1).f5.f0))) (fun _ hk => hk.2) (.int .i64 ((rd_T26 l0 x17_1).f5.f1))) (fun _ hk => hk.2) (.bool ((rd_T26 l0 x17_1).f5.f2))) (fun _ hk => hk.2) (.int .i64 ((rd_T26 l0 x17_1).f5.f3))) (fun _ hk => hk.2) (.int .i64 ((rd_T26 l0 x17_1).f5.f4))) (fun _ hk => hk.2) (.int .i64 ((rd_T26 l0 x17_1).f5.f5))) (fun _ h_ => h_.1)))) hb); replace BK356 := Aside0.mk (blk_below (g := gb356) (o := .cells #[.int .i64 ((rd_T26 l0 x17_1).f0), .int .i64 ((rd_T26 l0 x17_1).f1), .string ((rd_T26 l0 x17_1).f2), .string ((rd_T26 l0 x17_1).f3), .bool ((rd_T26 l0 x17_1).f4), .string ((rd_T26 l0 x17_1).f5.f0), .int .i64 ((rd_T26 l0 x17_1).f5.f1), .bool ((rd_T26 l0 x17_1).f5.f2), .int .i64 ((rd_T26 l0 x17_1).f5.f3), .int .i64 ((rd_T26 l0 x17_1).f5.f4), .int .i64 ((rd_T26 l0 x17_1).f5.f5)] 26 (0, 0)) (by (with_reducible repeat (first | refine blk_drewN ?_ _ | refine blk_drew ?_ | refine blk_alloc ?_ _)); refine blk_put (cs := #[.int .i64 ((rd_T26 l0 x17_1).f0), .int .i64 ((rd_T26 l0 x17_1).f1), .string ((rd_T26 l0 x17_1).f2), .string ((rd_T26 l0 x17_1).f3), .bool ((rd_T26 l0 x17_1).f4), .string ((rd_T26 l0 x17_1).f5.f0), .int .i64 ((rd_T26 l0 x17_1).f5.f1), .bool ((rd_T26 l0 x17_1).f5.f2), .int .i64 ((rd_T26 l0 x17_1).f5.f3), .int .i64 ((rd_T26 l0 x17_1).f5.f4), .int .i64 0]) ?_ 10 _ rfl; (with_reducible repeat (first | refine blk_drewN ?_ _ | refine blk_drew ?_ | refine blk_alloc ?_ _)); refine blk_put (cs := #[.int .i64 ((rd_T26 l0 x17_1).f0), .int .i64 ((rd_T26 l0 x17_1).f1), .string ((rd_T26 l0 x17_1).f2), .string ((rd_T26 l0 x17_1).f3), .bool ((rd_T26 l0 x17_1).f4), .string ((rd_T26 l0 x17_1).f5.f0), .int .i64 ((rd_T26 l0 x17_1).f5.f1), .bool ((rd_T26 l0 x17_1).f5.f2), .int .i64 ((rd_T26 l0 x17_1).f5.f3), .int .i64 0, .int .i64 0]) ?_ 9 _ rfl; (with_reducible repeat (first | refine blk_drewN ?_ _ | refine blk_drew ?_ | refine blk_alloc ?_ _)); refine blk_put (cs := #[.int .i64 ((rd_T26 l0 x17_1).f0), .int .i64 ((rd_T26 l0 x17_1).f1), .string ((rd_T26 l0 x17_1).f2), .string ((rd_T26 l0 x17_1).f3), .bool ((rd_T26 l0 x17_1).f4), .string ((rd_T26 l0 x17_1).f5.f0), .int .i64 ((rd_T26 l0 x17_1).f5.f1), .bool ((rd_T26 l0 x17_1).f5.f2), .int .i64 0, .int .i64 0, .int .i64 0]) ?_ 8 _ rfl; (with_reducible repeat (first | refine blk_drewN ?_ _ | refine blk_drew ?_ | refine blk_alloc ?_ _)); refine blk_put (cs := #[.int .i64 ((rd_T26 l0 x17_1).f0), .int .i64 ((rd_T26 l0 x17_1).f1), .string ((rd_T26 l0 x17_1).f2), .string ((rd_T26 l0 x17_1).f3), .bool ((rd_T26 l0 x17_1).f4), .string ((rd_T26 l0 x17_1).f5.f0), .int .i64 ((rd_T26 l0 x17_1).f5.f1), .bool false, .int .i64 0, .int .i64 0, .int .i64 0]) ?_ 7 _ rfl; (with_reducible repeat (first | refine blk_drewN ?_ _ | refine blk_drew ?_ | refine blk_alloc ?_ _)); refine blk_put (cs := #[.int .i64 ((rd_T26 l0 x17_1).f0), .int .i64 ((rd_T26 l0 x17_1).f1), .string ((rd_T26 l0 x17_1).f2), .string ((rd_T26 l0 x17_1).f3), .bool ((rd_T26 l0 x17_1).f4), .string ((rd_T26 l0 x17_1).f5.f0), .int .i64 0, .bool false, .int .i64 0, .int .i64 0, .int .i64 0]) ?_ 6 _ rfl; (with_reducible repeat (first | refine blk_drewN ?_ _ | refine blk_drew ?_ | refine blk_alloc ?_ _)); refine blk_put (cs := #[.int .i64 ((rd_T26 l0 x17_1).f0), .int .i64 ((rd_T26 l0 x17_1).f1), .string ((rd_T26 l0 x17_1).f2), .string ((rd_T26 l0 x17_1).f3), .bool ((rd_T26 l0 x17_1).f4), .string (⟨#[]⟩ : ByteArray), .int .i64 0, .bool false, .int .i64 0, .int .i64 0, .int .i64 0]) ?_ 5 _ rfl; (with_reducible repeat (first | refine blk_drewN ?_ _ | refine blk_drew ?_ | refine blk_alloc ?_ _)); refine blk_put (cs := #[.int .i64 ((rd_T26 l0 x17_1).f0), .int .i64 ((rd_T26 l0 x17_1).f1), .string ((rd_T26 l0 x17_1).f2), .string ((rd_T26 l0 x17_1).f3), .bool false, .string (⟨#[]⟩ : ByteArray), .int .i64 0, .bool false, .int .i64 0, .int .i64 0, .int .i64 0]) ?_ 4 _ rfl; (with_reducible repeat (first | refine blk_drewN ?_ _ | refine blk_drew ?_ | refine blk_alloc ?_ _)); refine blk_put (cs := #[.int .i64 ((rd_T26 l0 x17_1).f0), .int .i64 ((rd_T26 l0 x17_1).f1), .string ((rd_T26 l0 x17_1).f2), .string (⟨#[]⟩ : ByteArray), .bool false, .string (⟨#[]⟩ : ByteArray), .int .i64 0, .bool false, .int .i64 0, .int .i64 0, .int .i64 0]) ?_ 3 _ rfl; (with_reducible repeat (first | refine blk_drewN ?_ _ | refine blk_drew ?_ | refine blk_alloc ?_ _)); refine blk_put (cs := #[.int .i64 ((rd_T26 l0 x17_1).f0), .int .i64 ((rd_T26 l0 x17_1).f1), .string (⟨#[]⟩ : ByteArray), .string (⟨#[]⟩ : ByteArray), .bool false, .string (⟨#[]⟩ : ByteArray), .int .i64 0, .bool false, .int .i64 0, .int .i64 0, .int .i64 0]) ?_ 2 _ rfl; (with_reducible repeat (first | refine blk_drewN ?_ _ | refine blk_drew ?_ | refine blk_alloc ?_ _)); refine blk_put (cs := #[.int .i64 ((rd_T26 l0 x17_1).f0), .int .i64 0, .string (⟨#[]⟩ : ByteArray), .string (⟨#[]⟩ : ByteArray), .bool false, .string (⟨#[]⟩ : ByteArray), .int .i64 0, .bool false, .int .i64 0, .int .i64 0, .int .i64 0]) ?_ 1 _ rfl; (with_reducible repeat (first | refine blk_drewN ?_ _ | refine blk_drew ?_ | refine blk_alloc ?_ _)); refine blk_put (cs := #[.int .i64 0, .int .i64 0, .string (⟨#[]⟩ : ByteArray), .string (⟨#[]⟩ : ByteArray), .bool false, .string (⟨#[]⟩ : ByteArray), .int .i64 0, .bool false, .int .i64 0, .int .i64 0, .int .i64 0]) ?_ 0 _ rfl; (with_reducible repeat (first | refine blk_drewN ?_ _ | refine blk_drew ?_ | refine blk_alloc ?_ _)); exact BK356.out) hb); replace HB := Aside0.mk (below_step (qB1 HB.out GE356.out) hb); (try clear hb); (try clear hb2); (try clear hk); (try clear hi); have hcz20 := qC11 BK356.out; obtain ⟨Ao21, co21, eo21⟩ := Kd.S_slice HO_3.out; subst eo21) | ((with_reducible refine gate_callee (f := 9) rfl ?_); refine goesL_ (some 28) rfl rfl Tryz.func9 qr rfl #[.slice Ao21 x3_1.length co21, .agg #[.int .i64 ((rd_T26 l0 x17_1).f0), .int .i64 ((rd_T26 l0 x17_1).f1), .string ((rd_T26 l0 x17_1).f2), .string ((rd_T26 l0 x17_1).f3), .bool ((rd_T26 l0 x17_1).f4), .string ((rd_T26 l0 x17_1).f5.f0), .int .i64 ((rd_T26 l0 x17_1).f5.f1), .bool ((rd_T26 l0 x17_1).f5.f2), .int .i64 ((rd_T26 l0 x17_1).f5.f3), .int .i64 ((rd_T26 l0 x17_1).f5.f4), .int .i64 ((rd_T26 l0 x17_1).f5.f5)]] rfl qG ?_; (with_reducible refine (chicanelaw14_does.calls k1 _ _ x3_1 ((rd_T26 l0 x17_1).f0) ((rd_T26 l0 x17_1).f1) ((rd_T26 l0 x17_1).f2) ((rd_T26 l0 x17_1).f3) ((rd_T26 l0 x17_1).f4) ((rd_T26 l0 x17_1).f5.f0) ((rd_T26 l0 x17_1).f5.f1) ((rd_T26 l0 x17_1).f5.f2) ((rd_T26 l0 x17_1).f5.f3) ((rd_T26 l0 x17_1).f5.f4) ((rd_T26 l0 x17_1).f5.f5) t359 t362 _ ?side1 ?side2 A10.out).mono ?_); (case side1 => repeat (first | exact (Kd.S_reads' HO_3.out).2.2 | (with_reducible refine Kd.C_alloc ?_ _) | (with_reducible refine Kd.C_drewN ?_ _) | (with_reducible refine Kd.C_drew ?_))); (case side2 => exact (Kd.S_reads' HO_3.out).2.1); rintro e w22 ⟨v360, rfl, ho0, hb⟩; refine ⟨_, rfl, ?_⟩; have n0_ := Aside0.mk (Kd.S_elder' (qS HO_3.out) (Kd.S_base ho0) hb); have n1_ := Aside0.mk (Kd.V_elder' (qV HO_4.out) (Kd.S_base ho0) hb); have n2_ := Aside0.mk (Kd.S_lower (Kd.S_new' ho0 (Kd.S_lt (qS HO_3.out))) (below_size (qB1 HB.out GE356.out))); have n3_ := Aside0.mk (blk_below (qK BK356.out) hb); have n4_ := Aside0.mk (below_step (qB1 HB.out GE356.out) hb); clear HO_3 HO_4 BK356 HB; have HO_3 := n0_; have HO_4 := n1_; have HO361 := n2_; have BK356 := n3_; have HB := n4_; clear n0_ n1_ n2_ n3_ n4_; (try clear hb); (try clear hb2); (try clear hk); (try clear hi); (try clear ho0); have hcz23 := qC11 BK356.out; obtain ⟨Ao24, co24, eo24⟩ := Kd.V_slice HO_4.out; subst eo24) | ((with_reducible refine gate_callee (f := 10) rfl ?_); refine goesL_ (some 34) rfl rfl Tryz.func10 qr rfl #[.slice Ao24 x4_1.length co24, .agg #[.int .i64 ((rd_T26 l0 x17_1).f0), .int .i64 ((rd_T26 l0 x17_1).f1), .string ((rd_T26 l0 x17_1).f2), .string ((rd_T26 l0 x17_1).f3), .bool ((rd_T26 l0 x17_1).f4), .string ((rd_T26 l0 x17_1).f5.f0), .int .i64 ((rd_T26 l0 x17_1).f5.f1), .bool ((rd_T26 l0 x17_1).f5.f2), .int .i64 ((rd_T26 l0 x17_1).f5.f3), .int .i64 ((rd_T26 l0 x17_1).f5.f4), .int .i64 ((rd_T26 l0 x17_1).f5.f5)]] rfl qG ?_; (with_reducible refine (chicaneref14_Do.calls k1 (fun k_ => ((some k_ ≠ (.slice Ao21 x3_1.length co21 : Value).ownBlock ∧ k_ ≠ gb356) ∧ some k_ ≠ (v360 : Value).ownBlock)) _ _ x4_1 ((rd_T26 l0 x17_1).f0) ((rd_T26 l0 x17_1).f1) ((rd_T26 l0 x17_1).f2) ((rd_T26 l0 x17_1).f3) ((rd_T26 l0 x17_1).f4) ((rd_T26 l0 x17_1).f5.f0) ((rd_T26 l0 x17_1).f5.f1) ((rd_T26 l0 x17_1).f5.f2) ((rd_T26 l0 x17_1).f5.f3) ((rd_T26 l0 x17_1).f5.f4) ((rd_T26 l0 x17_1).f5.f5) t363 t366 _ ?side1 A11.out).mono ?_); (case side1 => exact HO_4.out); rintro e w25 ⟨v364, rfl, ho0, hb⟩; refine ⟨_, rfl, ?_⟩; have n0_ := Aside0.mk (Kd.S_below (qS HO_3.out) hb); have n1_ := Aside0.mk (Kd.V_below (qV HO_4.out) hb); have n2_ := Aside0.mk (Kd.S_below (qS HO361.out) hb); have n3_ := Aside0.mk (Kd.V_lower (Kd.V_mono (ok' := fun k_ => some k_ ≠ (.slice Ao21 x3_1.length co21 : Value).ownBlock ∧ some k_ ≠ (v360 : Value).ownBlock ∧ k_ ≠ gb356) ho0 (fun k_ hk_ => ⟨Or.elim hk_ (fun hs_ => hs_.1.1) (fun hn_ => (Kd.fresh' (Kd.S_lt (qS HO_3.out)) k_ hn_)), Or.elim hk_ (fun hs_ => hs_.2) (fun hn_ => (Kd.fresh' (Kd.S_lt (qS HO361.out)) k_ hn_)), Or.elim hk_ (fun hs_ => hs_.1.2) (fun hn_ => (Kd.freshB (qK BK356.out) k_ hn_))⟩)) (below_size (qB1 HB.out GE356.out))); have n4_ := Aside0.mk (blk_below (qK BK356.out) hb); have n5_ := Aside0.mk (below_step (qB1 HB.out GE356.out) hb); clear HO_3 HO_4 HO361 BK356 HB; have HO_3 := n0_; have HO_4 := n1_; have HO361 := n2_; have HO365 := n3_; have BK356 := n4_; have HB := n5_; clear n0_ n1_ n2_ n3_ n4_ n5_; (try clear hb); (try clear hb2); (try clear hk); (try clear hi); (try clear ho0); obtain ⟨Ao26, co26, eo26⟩ := Kd.S_slice HO361.out; subst eo26; obtain ⟨Ao27, co27, eo27⟩ := Kd.V_slice HO365.out; subst eo27) | ((with_reducible refine gate_callee (f := 11) rfl ?_); refine goesL_ (some 41) rfl rfl Tryz.func11 qr rfl #[.slice Ao26 t359.length co26, .slice Ao27 t363.length co27] rfl qG ?_; (with_reducible refine (chicaneref14_Same.calls k1 _ _ t359 _ _ t363 true _ ?side1 ?side2 ?side3 ?side4 A12.out).mono ?_); (case side1 => repeat (first | exact (Kd.S_reads' HO361.out).2.2 | (with_reducible refine Kd.C_alloc ?_ _) | (with_reducible refine Kd.C_drewN ?_ _) | (with_reducible refine Kd.C_drew ?_))); (case side2 => exact (Kd.S_reads' HO361.out).2.1); (case side3 => repeat (first | exact (Kd.V_reads' HO365.out).2.2 | (with_reducible refine Kd.C_alloc ?_ _) | (with_reducible refine Kd.C_drewN ?_ _) | (with_reducible refine Kd.C_drew ?_))); (case side4 => exact (Kd.V_reads' HO365.out).2.1); rintro e w28 ⟨rfl, hb⟩; refine ⟨_, rfl, ?_⟩; replace HO_3 := Aside0.mk (Kd.S_below (qS HO_3.out) hb); replace HO_4 := Aside0.mk (Kd.V_below (qV HO_4.out) hb); replace HO361 := Aside0.mk (Kd.S_below (qS HO361.out) hb); replace HO365 := Aside0.mk (Kd.V_below (qV HO365.out) hb); replace BK356 := Aside0.mk (blk_below (qK BK356.out) hb); replace HB := Aside0.mk (below_step (qB1 HB.out GE356.out) hb); (try clear hb); (try clear hb2); (try clear hk); (try clear hi)) | (go_at_call 13; (with_reducible refine (names_Right.calls k1 _ _ t359 true _ ?side1 ?side2 A15.out).mono ?_); (case side1 => repeat (first | exact (Kd.S_reads' HO361.out).2.2 | (with_reducible refine Kd.C_alloc ?_ _) | (with_reducible refine Kd.C_drewN ?_ _) | (with_reducible refine Kd.C_drew ?_))); (case side2 => exact (Kd.S_reads' HO361.out).2.1); rintro e w29 ⟨rfl, hb⟩; replace HO_3 := Aside0.mk (Kd.S_below (qS HO_3.out) hb); replace HO_4 := Aside0.mk (Kd.V_below (qV HO_4.out) hb); replace HO361 := Aside0.mk (Kd.S_below (qS HO361.out) hb); replace HO365 := Aside0.mk (Kd.V_below (qV HO365.out) hb); replace BK356 := Aside0.mk (blk_below (qK BK356.out) hb); replace HB := Aside0.mk (below_step (qB1 HB.out GE356.out) hb); (try clear hb); (try clear hb2); (try clear hk); (try clear hi)))
           go_roundg k1
           case measure => have := HK1.out; omega
           case rel => exact ⟨(t359), (t363), (wrap64 (x17_1 + 1)), qE1, H', ⟨by have := HK1.out; omega⟩, ⟨by (with_reducible repeat (first | apply Kd.S_alloc | apply Kd.S_drewN | apply Kd.S_drew)); exact Kd.S_mono HO361.out (fun _ hk => trivial)⟩, ⟨by (with_reducible repeat (first | apply Kd.V_alloc | apply Kd.V_drewN | apply Kd.V_drew)); exact Kd.V_mono HO365.out (fun _ hk => hk.2.1)⟩, ⟨by repeat (first | (with_reducible first | exact HB.out | apply below_alloc | apply pw_below_drewN | apply below_drew1 | refine below_set ?_ GE356.out) | exact HB.out)⟩⟩
          ·replace c16 := Bool.eq_false_iff.mpr c16
           subst c16
           have H1 : (some false) = some r := by rw [if_neg (show ¬ (false = true) by decide)] at H; exact H
           clear H
           have H := H1
           clear H1
           exact absurd ((Option.some.inj H).trans hr) Bool.false_ne_true
         ·rw [if_neg c14] at H
          have c14b0 : (t362 == t366) = false := beq_eq_false_iff_ne.mpr c14
          have c14b1 : (t362 != t366) = true := bne_iff_ne.mpr c14
          exact absurd ((Option.some.inj H).trans hr) Bool.false_ne_true
        ·replace c13 := Bool.eq_false_iff.mpr c13
         subst c13
         have H1 : (some false) = some r := by rw [if_neg (show ¬ (false = true) by decide)] at H; exact H
         clear H
         have H := H1
         clear H1
         exact absurd ((Option.some.inj H).trans hr) Bool.false_ne_true
       ·replace c9 := Bool.eq_false_iff.mpr c9
        subst c9
        have H1 : ((chicanelaw14_alive.f k1).bind fun t358 => (some t358)) = some r := by rw [if_neg (show ¬ (false = true) by decide)] at H; exact H
        clear H
        have H := H1
        clear H1
        replace H := Option.bind_eq_some_iff.mp H
        obtain ⟨t358, A670, H⟩ := H
        replace H : (some t358) = some r := H
        have A67 := Aside0.mk A670
        clear A670
        obtain rfl := Option.some.inj H
        have p355 : 0 ≤ (x17_1 : Int) := of_decide_eq_true qA
        have q355 : x17_1 < (l0.length : Int) := of_decide_eq_true qA
        obtain ⟨ad355, e355, hx355_0, hx355_1, hx355_2, hx355_3, hx355_4, hx355_5, hx355_6, hx355_7, hx355_8, hx355_9, hx355_10⟩ := at_T26 HR0.out x17_1 p355 q355
        cases e355
        replace hx355_0 := (HB.out.cell (World.block_lt_of_cell? w _ hx355_0)).trans hx355_0
        replace hx355_1 := (HB.out.cell (World.block_lt_of_cell? w _ hx355_1)).trans hx355_1
        replace hx355_2 := (HB.out.cell (World.block_lt_of_cell? w _ hx355_2)).trans hx355_2
        replace hx355_3 := (HB.out.cell (World.block_lt_of_cell? w _ hx355_3)).trans hx355_3
        replace hx355_4 := (HB.out.cell (World.block_lt_of_cell? w _ hx355_4)).trans hx355_4
        replace hx355_5 := (HB.out.cell (World.block_lt_of_cell? w _ hx355_5)).trans hx355_5
        replace hx355_6 := (HB.out.cell (World.block_lt_of_cell? w _ hx355_6)).trans hx355_6
        replace hx355_7 := (HB.out.cell (World.block_lt_of_cell? w _ hx355_7)).trans hx355_7
        replace hx355_8 := (HB.out.cell (World.block_lt_of_cell? w _ hx355_8)).trans hx355_8
        replace hx355_9 := (HB.out.cell (World.block_lt_of_cell? w _ hx355_9)).trans hx355_9
        replace hx355_10 := (HB.out.cell (World.block_lt_of_cell? w _ hx355_10)).trans hx355_10
        replace p355 := eq_true p355
        replace q355 := eq_true q355
        go_wp2_with (first | ((with_reducible refine gate_dst (N := 6) rfl ?_); refine box_event ?hg (N := 6) ?hd (cs := #[.int .i64 0, .int .i64 0, .string (⟨#[]⟩ : ByteArray), .string (⟨#[]⟩ : ByteArray), .bool false, .string (⟨#[]⟩ : ByteArray), .int .i64 0, .bool false, .int .i64 0, .int .i64 0, .int .i64 0]) (t := 26) ?hr ?_; (case hd => rfl); (case hg => rfl); (case hr => first | (go_simp; done) | (go_simp; rfl)); intro gb356 hg w68 hbox hb; have n0_ := Aside0.mk (Kd.S_below (qS HO_3.out) hb); have n1_ := Aside0.mk (Kd.V_below (Kd.V_elderB (qV HO_4.out) gb356 (Nat.le_of_eq hg.symm)) hb); have n2_ := Aside0.mk (below_step (qB HB.out) hb); have n3_ := Aside0.mk (hbox); have n4_ := Aside0.mk ((qs hg (below_size (qB HB.out)) : w.heap.size ≤ gb356)); have n5_ := Aside0.mk ((qs hg (below_size (qB HB.out)) : w.heap.size ≤ gb356)); clear HO_3 HO_4 HB; have HO_3 := n0_; have HO_4 := n1_; have HB := n2_; have BK356 := n3_; have GW356 := n4_; have GE356 := n5_; clear n0_ n1_ n2_ n3_ n4_ n5_ hb hbox hg; have hcz69 := qC11 BK356.out) | ((with_reducible refine gate_callee (f := 7) rfl ?_); refine goesL_ (some 22) rfl rfl Tryz.func7 qr rfl #[.agg #[.int .i64 ((rd_T26 l0 x17_1).f0), .int .i64 ((rd_T26 l0 x17_1).f1), .string ((rd_T26 l0 x17_1).f2), .string ((rd_T26 l0 x17_1).f3), .bool ((rd_T26 l0 x17_1).f4), .string ((rd_T26 l0 x17_1).f5.f0), .int .i64 ((rd_T26 l0 x17_1).f5.f1), .bool ((rd_T26 l0 x17_1).f5.f2), .int .i64 ((rd_T26 l0 x17_1).f5.f3), .int .i64 ((rd_T26 l0 x17_1).f5.f4), .int .i64 ((rd_T26 l0 x17_1).f5.f5)]] rfl qG ?_; (with_reducible refine (chicanelaw14_kind.calls ((rd_T26 l0 x17_1).f0) ((rd_T26 l0 x17_1).f1) ((rd_T26 l0 x17_1).f2) ((rd_T26 l0 x17_1).f3) ((rd_T26 l0 x17_1).f4) ((rd_T26 l0 x17_1).f5.f0) ((rd_T26 l0 x17_1).f5.f1) ((rd_T26 l0 x17_1).f5.f2) ((rd_T26 l0 x17_1).f5.f3) ((rd_T26 l0 x17_1).f5.f4) ((rd_T26 l0 x17_1).f5.f5) false _ A8.out).mono ?_); rintro e w70 ⟨rfl, hb⟩; refine ⟨_, rfl, ?_⟩; replace HO_3 := Aside0.mk (Kd.S_below (qS ((Kd.S_mono (Kd.S_far (p := ⟨gb356, 10, none⟩) (Kd.S_far (p := ⟨gb356, 9, none⟩) (Kd.S_far (p := ⟨gb356, 8, none⟩) (Kd.S_far (p := ⟨gb356, 7, none⟩) (Kd.S_far (p := ⟨gb356, 6, none⟩) (Kd.S_far (p := ⟨gb356, 5, none⟩) (Kd.S_far (p := ⟨gb356, 4, none⟩) (Kd.S_far (p := ⟨gb356, 3, none⟩) (Kd.S_far (p := ⟨gb356, 2, none⟩) (Kd.S_far (p := ⟨gb356, 1, none⟩) (Kd.S_far (p := ⟨gb356, 0, none⟩) (Kd.S_types HO_3.out BK356.out (by decide)) (fun _ hk => hk.2) (.int .i64 ((rd_T26 l0 x17_1).f0))) (fun _ hk => hk.2) (.int .i64 ((rd_T26 l0 x17_1).f1))) (fun _ hk => hk.2) (.string ((rd_T26 l0 x17_1).f2))) (fun _ hk => hk.2) (.string ((rd_T26 l0 x17_1).f3))) (fun _ hk => hk.2) (.bool ((rd_T26 l0 x17_1).f4))) (fun _ hk => hk.2) (.string ((rd_T26 l0 x17_1).f5.f0))) (fun _ hk => hk.2) (.int .i64 ((rd_T26 l0 x17_1).f5.f1))) (fun _ hk => hk.2) (.bool ((rd_T26 l0 x17_1).f5.f2))) (fun _ hk => hk.2) (.int .i64 ((rd_T26 l0 x17_1).f5.f3))) (fun _ hk => hk.2) (.int .i64 ((rd_T26 l0 x17_1).f5.f4))) (fun _ hk => hk.2) (.int .i64 ((rd_T26 l0 x17_1).f5.f5))) (fun _ h_ => h_.1)))) hb); replace HO_4 := Aside0.mk (Kd.V_below (qV ((Kd.V_mono (Kd.V_far (p := ⟨gb356, 10, none⟩) (Kd.V_far (p := ⟨gb356, 9, none⟩) (Kd.V_far (p := ⟨gb356, 8, none⟩) (Kd.V_far (p := ⟨gb356, 7, none⟩) (Kd.V_far (p := ⟨gb356, 6, none⟩) (Kd.V_far (p := ⟨gb356, 5, none⟩) (Kd.V_far (p := ⟨gb356, 4, none⟩) (Kd.V_far (p := ⟨gb356, 3, none⟩) (Kd.V_far (p := ⟨gb356, 2, none⟩) (Kd.V_far (p := ⟨gb356, 1, none⟩) (Kd.V_far (p := ⟨gb356, 0, none⟩) (Kd.V_mono HO_4.out (fun k_ hk => (⟨hk, hk.2⟩ : _ ∧ k_ ≠ gb356))) (fun _ hk => hk.2) (.int .i64 ((rd_T26 l0 x17_1).f0))) (fun _ hk => hk.2) (.int .i64 ((rd_T26 l0 x17_1).f1))) (fun _ hk => hk.2) (.string ((rd_T26 l0 x17_1).f2))) (fun _ hk => hk.2) (.string ((rd_T26 l0 x17_1).f3))) (fun _ hk => hk.2) (.bool ((rd_T26 l0 x17_1).f4))) (fun _ hk => hk.2) (.string ((rd_T26 l0 x17_1).f5.f0))) (fun _ hk => hk.2) (.int .i64 ((rd_T26 l0 x17_1).f5.f1))) (fun _ hk => hk.2) (.bool ((rd_T26 l0 x17_1).f5.f2))) (fun _ hk => hk.2) (.int .i64 ((rd_T26 l0 x17_1).f5.f3))) (fun _ hk => hk.2) (.int .i64 ((rd_T26 l0 x17_1).f5.f4))) (fun _ hk => hk.2) (.int .i64 ((rd_T26 l0 x17_1).f5.f5))) (fun _ h_ => h_.1)))) hb); replace BK356 := Aside0.mk (blk_below (g := gb356) (o := .cells #[.int .i64 ((rd_T26 l0 x17_1).f0), .int .i64 ((rd_T26 l0 x17_1).f1), .string ((rd_T26 l0 x17_1).f2), .string ((rd_T26 l0 x17_1).f3), .bool ((rd_T26 l0 x17_1).f4), .string ((rd_T26 l0 x17_1).f5.f0), .int .i64 ((rd_T26 l0 x17_1).f5.f1), .bool ((rd_T26 l0 x17_1).f5.f2), .int .i64 ((rd_T26 l0 x17_1).f5.f3), .int .i64 ((rd_T26 l0 x17_1).f5.f4), .int .i64 ((rd_T26 l0 x17_1).f5.f5)] 26 (0, 0)) (by (with_reducible repeat (first | refine blk_drewN ?_ _ | refine blk_drew ?_ | refine blk_alloc ?_ _)); refine blk_put (cs := #[.int .i64 ((rd_T26 l0 x17_1).f0), .int .i64 ((rd_T26 l0 x17_1).f1), .string ((rd_T26 l0 x17_1).f2), .string ((rd_T26 l0 x17_1).f3), .bool ((rd_T26 l0 x17_1).f4), .string ((rd_T26 l0 x17_1).f5.f0), .int .i64 ((rd_T26 l0 x17_1).f5.f1), .bool ((rd_T26 l0 x17_1).f5.f2), .int .i64 ((rd_T26 l0 x17_1).f5.f3), .int .i64 ((rd_T26 l0 x17_1).f5.f4), .int .i64 0]) ?_ 10 _ rfl; (with_reducible repeat (first | refine blk_drewN ?_ _ | refine blk_drew ?_ | refine blk_alloc ?_ _)); refine blk_put (cs := #[.int .i64 ((rd_T26 l0 x17_1).f0), .int .i64 ((rd_T26 l0 x17_1).f1), .string ((rd_T26 l0 x17_1).f2), .string ((rd_T26 l0 x17_1).f3), .bool ((rd_T26 l0 x17_1).f4), .string ((rd_T26 l0 x17_1).f5.f0), .int .i64 ((rd_T26 l0 x17_1).f5.f1), .bool ((rd_T26 l0 x17_1).f5.f2), .int .i64 ((rd_T26 l0 x17_1).f5.f3), .int .i64 0, .int .i64 0]) ?_ 9 _ rfl; (with_reducible repeat (first | refine blk_drewN ?_ _ | refine blk_drew ?_ | refine blk_alloc ?_ _)); refine blk_put (cs := #[.int .i64 ((rd_T26 l0 x17_1).f0), .int .i64 ((rd_T26 l0 x17_1).f1), .string ((rd_T26 l0 x17_1).f2), .string ((rd_T26 l0 x17_1).f3), .bool ((rd_T26 l0 x17_1).f4), .string ((rd_T26 l0 x17_1).f5.f0), .int .i64 ((rd_T26 l0 x17_1).f5.f1), .bool ((rd_T26 l0 x17_1).f5.f2), .int .i64 0, .int .i64 0, .int .i64 0]) ?_ 8 _ rfl; (with_reducible repeat (first | refine blk_drewN ?_ _ | refine blk_drew ?_ | refine blk_alloc ?_ _)); refine blk_put (cs := #[.int .i64 ((rd_T26 l0 x17_1).f0), .int .i64 ((rd_T26 l0 x17_1).f1), .string ((rd_T26 l0 x17_1).f2), .string ((rd_T26 l0 x17_1).f3), .bool ((rd_T26 l0 x17_1).f4), .string ((rd_T26 l0 x17_1).f5.f0), .int .i64 ((rd_T26 l0 x17_1).f5.f1), .bool false, .int .i64 0, .int .i64 0, .int .i64 0]) ?_ 7 _ rfl; (with_reducible repeat (first | refine blk_drewN ?_ _ | refine blk_drew ?_ | refine blk_alloc ?_ _)); refine blk_put (cs := #[.int .i64 ((rd_T26 l0 x17_1).f0), .int .i64 ((rd_T26 l0 x17_1).f1), .string ((rd_T26 l0 x17_1).f2), .string ((rd_T26 l0 x17_1).f3), .bool ((rd_T26 l0 x17_1).f4), .string ((rd_T26 l0 x17_1).f5.f0), .int .i64 0, .bool false, .int .i64 0, .int .i64 0, .int .i64 0]) ?_ 6 _ rfl; (with_reducible repeat (first | refine blk_drewN ?_ _ | refine blk_drew ?_ | refine blk_alloc ?_ _)); refine blk_put (cs := #[.int .i64 ((rd_T26 l0 x17_1).f0), .int .i64 ((rd_T26 l0 x17_1).f1), .string ((rd_T26 l0 x17_1).f2), .string ((rd_T26 l0 x17_1).f3), .bool ((rd_T26 l0 x17_1).f4), .string (⟨#[]⟩ : ByteArray), .int .i64 0, .bool false, .int .i64 0, .int .i64 0, .int .i64 0]) ?_ 5 _ rfl; (with_reducible repeat (first | refine blk_drewN ?_ _ | refine blk_drew ?_ | refine blk_alloc ?_ _)); refine blk_put (cs := #[.int .i64 ((rd_T26 l0 x17_1).f0), .int .i64 ((rd_T26 l0 x17_1).f1), .string ((rd_T26 l0 x17_1).f2), .string ((rd_T26 l0 x17_1).f3), .bool false, .string (⟨#[]⟩ : ByteArray), .int .i64 0, .bool false, .int .i64 0, .int .i64 0, .int .i64 0]) ?_ 4 _ rfl; (with_reducible repeat (first | refine blk_drewN ?_ _ | refine blk_drew ?_ | refine blk_alloc ?_ _)); refine blk_put (cs := #[.int .i64 ((rd_T26 l0 x17_1).f0), .int .i64 ((rd_T26 l0 x17_1).f1), .string ((rd_T26 l0 x17_1).f2), .string (⟨#[]⟩ : ByteArray), .bool false, .string (⟨#[]⟩ : ByteArray), .int .i64 0, .bool false, .int .i64 0, .int .i64 0, .int .i64 0]) ?_ 3 _ rfl; (with_reducible repeat (first | refine blk_drewN ?_ _ | refine blk_drew ?_ | refine blk_alloc ?_ _)); refine blk_put (cs := #[.int .i64 ((rd_T26 l0 x17_1).f0), .int .i64 ((rd_T26 l0 x17_1).f1), .string (⟨#[]⟩ : ByteArray), .string (⟨#[]⟩ : ByteArray), .bool false, .string (⟨#[]⟩ : ByteArray), .int .i64 0, .bool false, .int .i64 0, .int .i64 0, .int .i64 0]) ?_ 2 _ rfl; (with_reducible repeat (first | refine blk_drewN ?_ _ | refine blk_drew ?_ | refine blk_alloc ?_ _)); refine blk_put (cs := #[.int .i64 ((rd_T26 l0 x17_1).f0), .int .i64 0, .string (⟨#[]⟩ : ByteArray), .string (⟨#[]⟩ : ByteArray), .bool false, .string (⟨#[]⟩ : ByteArray), .int .i64 0, .bool false, .int .i64 0, .int .i64 0, .int .i64 0]) ?_ 1 _ rfl; (with_reducible repeat (first | refine blk_drewN ?_ _ | refine blk_drew ?_ | refine blk_alloc ?_ _)); refine blk_put (cs := #[.int .i64 0, .int .i64 0, .string (⟨#[]⟩ : ByteArray), .string (⟨#[]⟩ : ByteArray), .bool false, .string (⟨#[]⟩ : ByteArray), .int .i64 0, .bool false, .int .i64 0, .int .i64 0, .int .i64 0]) ?_ 0 _ rfl; (with_reducible repeat (first | refine blk_drewN ?_ _ | refine blk_drew ?_ | refine blk_alloc ?_ _)); exact BK356.out) hb); replace HB := Aside0.mk (below_step (qB1 HB.out GE356.out) hb); (try clear hb); (try clear hb2); (try clear hk); (try clear hi)) | ((with_reducible refine gate_callee (f := 8) rfl ?_); refine goesL_ (some 24) rfl rfl Tryz.func8 qr rfl #[] rfl qG ?_; (with_reducible refine (chicanelaw14_alive.calls k1  t358 _ A67.out).mono ?_); rintro e w71 ⟨rfl, hb⟩; refine ⟨_, rfl, ?_⟩; replace HO_3 := Aside0.mk (Kd.S_below (qS HO_3.out) hb); replace HO_4 := Aside0.mk (Kd.V_below (qV HO_4.out) hb); replace BK356 := Aside0.mk (blk_below (qK BK356.out) hb); replace HB := Aside0.mk (below_step (qB1 HB.out GE356.out) hb); (try clear hb); (try clear hb2); (try clear hk); (try clear hi)))
        go_ret
        exact ⟨qE, by repeat (first | (with_reducible first | exact HB.out | apply below_alloc | apply pw_below_drewN | apply below_drew1 | refine below_set ?_ GE356.out) | exact HB.out)⟩
      ·rw [if_neg c7] at H
       exact absurd H (by simp)
     ·rw [if_neg c6] at H
      exact absurd H (by simp)
    ·rw [if_neg c5] at H
     have c5b0 : decide (x17_1 < (l0.length : Int)) = false := decide_eq_false c5
     clear c5
     replace H := Option.bind_eq_some_iff.mp H
     obtain ⟨t354, A720, H⟩ := H
     replace H : (some t354) = some r := H
     have A72 := Aside0.mk A720
     clear A720
     obtain rfl := Option.some.inj H
     go_wp2_with (first | ((with_reducible refine gate_callee (f := 8) rfl ?_); refine goesL_ (some 54) rfl rfl Tryz.func8 qr rfl #[] rfl qG ?_; (with_reducible refine (chicanelaw14_alive.calls k1  t354 _ A72.out).mono ?_); rintro e w73 ⟨rfl, hb⟩; refine ⟨_, rfl, ?_⟩; replace HO_3 := Aside0.mk (Kd.S_below (qS HO_3.out) hb); replace HO_4 := Aside0.mk (Kd.V_below (qV HO_4.out) hb); replace HB := Aside0.mk (below_step (qB HB.out) hb); (try clear hb); (try clear hb2); (try clear hk); (try clear hi)))
     go_ret
     exact ⟨qE, by repeat (first | (with_reducible first | exact HB.out | apply below_alloc | apply pw_below_drewN | apply below_drew1) | exact HB.out)⟩
end Go.Proofs.YtlglbpjccpdloaaGreat.PNamA
set_option linter.unusedVariables false
set_option linter.unusedSimpArgs false
namespace Go.Proofs.YtlglbpjccpdloaaGreat.Ext
open Go.RowKit Go.Proofs.YtlglbpjccpdloaaGreat.PNamA Go.Proofs.YtlglbpjccpdloaaGreat.Tox Go.Proofs.YtlglbpjccpdloaaGreat.ToxZ Go.Proofs.YtlglbpjccpdloaaGreat.NmLaw Go.Proofs.YtlglbpjccpdloaaGreatW.PrintWords Go.Proofs.YtlglbpjccpdloaaGreatW.PrintLast
theorem right_sz {l : List S39} (h : rightB l = true) : ∀ x ∈ l, szP x := by
  intro x hx
  obtain ⟨a, b, c, d, e, f⟩ := (chk_iff x).1 ((right_len h).2 x hx)
  refine ⟨?_, fun t ht => ?_⟩
  · have := name_size _ a; unfold szM; omega
  · have := name_size _ (check_zero (show checkOf t.f0 t.f1 t.f2 t.f3 t.f4 t.f5 = 0 from e t ht)).1; unfold szM; omega
theorem rdO_at (l : List S26) (i : Nat) (h : i < l.length) : rd_T26 l (i : Int) = l[i] := by simp [rd_T26, h]
theorem scripts_l0 (ops : List S26) (hm : ops.length ≤ 1000) : ∀ (d i k : Nat) (a : List S39), ops.length - i = d → i ≤ ops.length → rightB a = true → d + 600 ≤ k →
    chicanelaw14_NamesScripts.l0 k a a ops (ops.length : Int) (i : Int) = some true := by
  intro d
  induction d with
  | zero =>
    intro i k a hd hi hr hk
    obtain ⟨k, rfl⟩ : ∃ m, k = m + 1 := ⟨k - 1, by omega⟩
    unfold chicanelaw14_NamesScripts.l0
    rw [if_neg (by omega), alive_is k (by omega)]
    rfl
  | succ d ih =>
    intro i k a hd hi hr hk
    obtain ⟨k, rfl⟩ : ∃ m, k = m + 1 := ⟨k - 1, by omega⟩
    have hl : i < ops.length := by omega
    have h8 := (right_len hr).1
    unfold chicanelaw14_NamesScripts.l0
    rw [if_pos (by omega), if_pos (by omega), if_pos (by omega), rdO_at ops i hl]
    obtain ⟨o, ho⟩ : ∃ o, ops[i] = o := ⟨_, rfl⟩
    rw [ho]
    obtain ⟨b, hb⟩ := kind_some o.f0 o.f1 o.f2 o.f3 o.f4 o.f5.f0 o.f5.f1 o.f5.f2 o.f5.f3 o.f5.f4 o.f5.f5
    rw [hb, Option.bind_some]
    cases b with
    | false => rw [if_neg (by simp), alive_is k (by omega)]; rfl
    | true =>
      obtain ⟨h06, hs2, hs5, _⟩ := kind_at hb
      have hlow := low_do hr o.f0 o.f1 o.f2 o.f3 o.f4 ⟨o.f5.f0, o.f5.f1, o.f5.f2, o.f5.f3, o.f5.f4, o.f5.f5⟩
      have hnew := right_do hr o.f0 o.f1 o.f2 o.f3 o.f4 ⟨o.f5.f0, o.f5.f1, o.f5.f2, o.f5.f3, o.f5.f4, o.f5.f5⟩
      rw [if_pos rfl, does_is a (by omega) _ (by omega), Option.bind_some, rdo_is a (by omega) (right_sz hr) _ _ h06 _ _ _ _ _ _ _ _ _ (by omega) (by omega) _ (by omega), Option.bind_some,
        same_self (by have := hlow.1; omega) (fun x hx => by have := hlow.2 x hx; omega) _ (by omega), Option.bind_some, if_pos rfl, if_pos rfl, right_is' _ (by have := hlow.1; omega) _ (by have := hlow.1; omega), Option.bind_some, if_pos hnew,
        show wrap64 ((i : Int) + 1) = ((i + 1 : Nat) : Int) by rw [w64_in' _ (by omega) (by omega)]; rfl]
      exact ih (i + 1) k _ (by omega) (by omega) hnew (by omega)
theorem scripts_is (ops : List S26) : chicanelaw14_NamesScripts.f 1000 ops = some true := by
  unfold chicanelaw14_NamesScripts.f
  by_cases h : (ops.length : Int) > 60
  · rw [if_pos h, alive_is 1000 (by omega)]; rfl
  · rw [if_neg h]
    exact scripts_l0 ops (by omega) ops.length 0 1000 [] (by omega) (by omega) (by decide) (by omega)
end Go.Proofs.YtlglbpjccpdloaaGreat.Ext
namespace Go.Proofs.YtlglbpjccpdloaaGreat.namesScripts
open Go.ChangeShapes Go.WideShapes Go.ChangeAt Go.RowKit
open Go.ChangeMaps (open_string shut_string)
set_option linter.unusedVariables false
theorem own : ownKnob Tryz.prog.godebug = none := by kernel_rfl
theorem laidOut : laidOutB Tryz.prog = true := by kernel_rfl
set_option maxRecDepth 100000 in
theorem lifted (os : Os) (started : os.Started) (H : Type) (enc : TypeId × Value → H) :
    ReturnsInHanded {} Tryz.checked os 4 .any (Rows.namesScriptsSpec.pre6 enc Tryz.prog Tryz.f4 Rows.namesScriptsRow.domain false) (Rows.namesScriptsSpec.post enc Tryz.prog Tryz.f4 false true false false) := by
  refine returnsInHanded_of_change_sized (C := Tryz.checked) own started (by kernel_rfl) Tryz.func4
    (ChangeSpec.witness6 (enc := enc) (C := Tryz.checked) false ⟨#[], #[.slice none 0 0], []⟩ 8 (by kernel_rfl) (by kernel_rfl) (by kernel_rfl) (by kernel_rfl)) ?_
  intro W base args ds gs before hval0 hW hcnd hsz0 _
  have hsz : (DataW.weightsEach Tryz.prog (Tryz.f4.params.toList ++ Rows.namesScriptsSpec.plain.varTypes Tryz.prog) (ds ++ gs)).all (· ≤ reachBytes) = true := hsz0
  have hval : ∀ (j : Nat) t v, Tryz.f4.params[j]? = some t → args[j]? = some v → Value.okWide Tryz.prog W .any base t v := hval0
  have hW' := hW
  obtain ⟨p, q, hA0, hV, rfl, hfz, hnd⟩ := hW
  have hA : DataW.TrodAll enc Tryz.prog W 0 (fun _ => true) true Tryz.f4.params.toList args.toList ds p := hA0
  rw [Tryz.params4] at hA hval hsz
  obtain ⟨v0, vs0, d0, ds0, p0, q0, hargs, rfl, rfl, h0, r0'⟩ := trodAll_cons hA
  obtain ⟨rfl, rfl, rfl⟩ := trodAll_nil r0'
  obtain rfl : args = #[v0] := by cases args; simp_all
  obtain ⟨rfl, rfl⟩ := trodVars_none hV
  have k0 := h0
  have lt0 : ∀ x ∈ p0, x.block < W.heap.size := by obtain ⟨m, hm⟩ := k0; exact DataW.trod_lt m _ _ _ hm
  obtain ⟨Ax0, len0, cap0, hv0⟩ := okWide_slice Tryz.underlying35 (hval 0 35 v0 rfl rfl)
  obtain ⟨A0, cp0, l0, rfl, hc0, r0, m0, e0⟩ := Arg.ops_arg h0 ⟨_, _, _, hv0⟩
  clear hA0 hval0 hsz0 hsz
  refine (PNamA.chicanelaw14_NamesScripts.calls 1000 A0 cp0 l0 true W r0 hc0 rfl (Ext.scripts_is l0)).mono fun e W' ⟨he, bel⟩ => ?_
  subst he
  exact ⟨_, rfl, _, _, _, [], _, [], hW', trodAll_mk1 (shut_bool Tryz.underlying4 _), (trodAll_cons_mk (Below.trod laidOut (by kernel_rfl) (of_decide_eq_true (by kernel_rfl)) k0 bel lt0) trodAll_mk0), rfl, bel.frame _, fun h => by cases h⟩
theorem over : Rows.namesScriptsRow.holds Tryz.pinned (OpenSpec.ofChange Rows.namesScriptsSpec) :=
  OpenClaim.holds_of_wide 4 Tryz.f4 rfl rfl rfl rfl rfl rfl rfl ⟨rfl, rfl, rfl, rfl, rfl⟩ rfl rfl rfl rfl rfl (by kernel_rfl) Tryz.func4 (by kernel_rfl)
    (of_decide_eq_true (by kernel_rfl)) (by unfold Func.isWrapper; first | (rw [if_pos (by decide +kernel)]; kernel_rfl) | (rw [if_neg (by decide +kernel)]; exact ⟨rfl, rfl⟩))
    (fun os started H enc _ => lifted os started H enc)
theorem proved : Rows.NamesScriptsSaid := over
end Go.Proofs.YtlglbpjccpdloaaGreat.namesScripts
namespace Go.Proofs.YtlglbpjccpdloaaGreat
theorem namesScripts_holds : Rows.NamesScriptsSaid := namesScripts.proved
end Go.Proofs.YtlglbpjccpdloaaGreat
