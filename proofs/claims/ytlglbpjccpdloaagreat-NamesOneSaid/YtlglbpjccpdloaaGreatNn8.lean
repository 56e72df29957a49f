/- Gathered by a program of this session (shake.py): what the claim's theorem needs. -/
import Derived.Test.YtlglbpjccpdloaaGreatNn1
import Derived.Test.YtlglbpjccpdloaaGreatNn3
import Derived.Test.YtlglbpjccpdloaaGreatNn5
import Derived.Test.YtlglbpjccpdloaaGreatNn6
import Derived.Test.YtlglbpjccpdloaaGreatNn7
import Derived.WalkKit
import Derived.ProofKit
import Derived.OpenShut
import Derived.ShutString
import Derived.ChangeOld
import Derived.Below
import Derived.SizedLaws
import Derived.Test.YtlglbpjccpdloaaGreatRows
set_option linter.unusedVariables false
set_option linter.unusedSimpArgs false
namespace Go.Proofs.YtlglbpjccpdloaaGreat.Ext
end Go.Proofs.YtlglbpjccpdloaaGreat.Ext
namespace Go.Proofs.YtlglbpjccpdloaaGreat.NmLaw
end Go.Proofs.YtlglbpjccpdloaaGreat.NmLaw
namespace Go.Proofs.YtlglbpjccpdloaaGreat.PNamA
end Go.Proofs.YtlglbpjccpdloaaGreat.PNamA
namespace Go.Proofs.YtlglbpjccpdloaaGreat.Tox
end Go.Proofs.YtlglbpjccpdloaaGreat.Tox
namespace Go.Proofs.YtlglbpjccpdloaaGreat.ToxZ
end Go.Proofs.YtlglbpjccpdloaaGreat.ToxZ
namespace Go.Proofs.YtlglbpjccpdloaaGreatW
end Go.Proofs.YtlglbpjccpdloaaGreatW
namespace Go.Proofs.YtlglbpjccpdloaaGreatW.PrintLast
end Go.Proofs.YtlglbpjccpdloaaGreatW.PrintLast
namespace Go.Proofs.YtlglbpjccpdloaaGreatW.PrintMore
end Go.Proofs.YtlglbpjccpdloaaGreatW.PrintMore
namespace Go.Proofs.YtlglbpjccpdloaaGreatW.PrintWords
end Go.Proofs.YtlglbpjccpdloaaGreatW.PrintWords
namespace Go.Proofs.YtlglbpjccpdloaaGreat.PNamA
open Go.Proofs.YtlglbpjccpdloaaGreat.Ext Go.Proofs.YtlglbpjccpdloaaGreat.ToxZ Go.RowKit Go.Proofs.YtlglbpjccpdloaaGreatW.PrintWords Go.Proofs.YtlglbpjccpdloaaGreatW.PrintLast Go.Proofs.YtlglbpjccpdloaaGreatW.PrintMore
attribute [local go_sem] max2_int min2_int max_two min_two max_three min_three max_four min_four   -- for this text's walks alone
set_option linter.unusedVariables false
set_option linter.unusedSimpArgs false
mutual
def chicanelaw14_NamesOne.j0 : Nat → List (S39) → Bool → Int → Int → ByteArray → ByteArray → Bool → ByteArray → Int → Bool → Int → Int → Int → Option (Bool)
 | 0, _, _, _, _, _, _, _, _, _, _, _, _, _ => none
 | k + 1, x0, x27, x347000, x347001, x347002, x347003, x347004, x347005, x347006, x347007, x347008, x347009, x347010 => if x27 = true then ((chicanelaw14_alive.f k).bind fun t350 => (some t350)) else ((chicanelaw14_does.f k x0 x347000 x347001 x347002 x347003 x347004 x347005 x347006 x347007 x347008 x347009 x347010).bind fun bt351 => (chicanelaw14_NamesOne.l0 k x0 bt351.1 x0 (x0.length : Int) 0 x347000 x347001 x347002 x347003 x347004 x347005 x347006 x347007 x347008 x347009 x347010))
def chicanelaw14_NamesOne.l0 : Nat → List (S39) → List (S39) → List (S39) → Int → Int → Int → Int → ByteArray → ByteArray → Bool → ByteArray → Int → Bool → Int → Int → Int → Option (Bool)
 | 0, _, _, _, _, _, _, _, _, _, _, _, _, _, _, _, _ => none
 | k + 1, x0, x5, x35, x36, x37, x347000, x347001, x347002, x347003, x347004, x347005, x347006, x347007, x347008, x347009, x347010 => if x37 < x36 then (if 0 ≤ x37 then (if x37 < (x35.length : Int) then ((chicaneref14_Find.f k x5 ((zqe x35 x37).f0)).bind fun t358 => (if ((zqe x35 x37).f0).toList = x347002.toList then (chicanelaw14_NamesOne.l0 k x0 x5 x35 x36 (wrap64 (x37 + 1)) x347000 x347001 x347002 x347003 x347004 x347005 x347006 x347007 x347008 x347009 x347010) else (if t358 < 0 then (some false) else (if 0 ≤ t358 then (if t358 ≤ (wrap64 (t358 + 1)) then (if (wrap64 (t358 + 1)) ≤ (x5.length : Int) then ((chicaneref14_Same.f k ((x5.take ((wrap64 (t358 + 1)) : Int).toNat).drop (t358 : Int).toNat) (([(⟨(zqe x35 x37).f0, (zqe x35 x37).f1, (zqe x35 x37).f2, (zqe x35 x37).f3⟩ : S39)] : List (S39)))).bind fun t367 => (if t367 = true then (chicanelaw14_NamesOne.l0 k x0 x5 x35 x36 (wrap64 (x37 + 1)) x347000 x347001 x347002 x347003 x347004 x347005 x347006 x347007 x347008 x347009 x347010) else (some false))) else (none)) else (none)) else (none))))) else (none)) else (none)) else ((chicanelaw14_alive.f k).bind fun t355 => (if t355 = true then (if (x5.length : Int) ≤ (wrap64 ((x0.length : Int) + 1)) then (some (decide ((wrap64 ((x5.length : Int) + 1)) ≥ (x0.length : Int)))) else (some false)) else (some false)))
end
def chicanelaw14_NamesOne.f (k : Nat) (l0 : List (S39)) (a1_0 : Int) (a1_1 : Int) (a1_2 : ByteArray) (a1_3 : ByteArray) (a1_4 : Bool) (a1_5 : ByteArray) (a1_6 : Int) (a1_7 : Bool) (a1_8 : Int) (a1_9 : Int) (a1_10 : Int) : Option (Bool) := (chicanelaw14_few.f k l0).bind fun t347 => (if t347 = true then ((chicanelaw14_kind.f a1_0 a1_1 a1_2 a1_3 a1_4 a1_5 a1_6 a1_7 a1_8 a1_9 a1_10).bind fun t348 => (if t348 = true then ((chicaneref14_Right.f k l0).bind fun t349 => (if t349 = true then (chicanelaw14_NamesOne.j0 k l0 (a1_0 == 6) a1_0 a1_1 a1_2 a1_3 a1_4 a1_5 a1_6 a1_7 a1_8 a1_9 a1_10) else (chicanelaw14_NamesOne.j0 k l0 true a1_0 a1_1 a1_2 a1_3 a1_4 a1_5 a1_6 a1_7 a1_8 a1_9 a1_10))) else (chicanelaw14_NamesOne.j0 k l0 true a1_0 a1_1 a1_2 a1_3 a1_4 a1_5 a1_6 a1_7 a1_8 a1_9 a1_10))) else (chicanelaw14_NamesOne.j0 k l0 true a1_0 a1_1 a1_2 a1_3 a1_4 a1_5 a1_6 a1_7 a1_8 a1_9 a1_10))
theorem chicanelaw14_NamesOne.mono_l : ∀ k, (∀ y0 y1 y2 y3 y4 y5 y6 y7 y8 y9 y10 y11 y12, LeO (chicanelaw14_NamesOne.j0 k y0 y1 y2 y3 y4 y5 y6 y7 y8 y9 y10 y11 y12) (chicanelaw14_NamesOne.j0 (k + 1) y0 y1 y2 y3 y4 y5 y6 y7 y8 y9 y10 y11 y12)) ∧ (∀ y0 y1 y2 y3 y4 y5 y6 y7 y8 y9 y10 y11 y12 y13 y14 y15, LeO (chicanelaw14_NamesOne.l0 k y0 y1 y2 y3 y4 y5 y6 y7 y8 y9 y10 y11 y12 y13 y14 y15) (chicanelaw14_NamesOne.l0 (k + 1) y0 y1 y2 y3 y4 y5 y6 y7 y8 y9 y10 y11 y12 y13 y14 y15))
 | 0 => ⟨fun _ _ _ _ _ _ _ _ _ _ _ _ _ r h => by simp [chicanelaw14_NamesOne.j0] at h, fun _ _ _ _ _ _ _ _ _ _ _ _ _ _ _ _ r h => by simp [chicanelaw14_NamesOne.l0] at h⟩
 | k + 1 => by
  obtain ⟨ih0, ih1⟩ := chicanelaw14_NamesOne.mono_l k
  refine ⟨?_, ?_⟩
  ·intro y0 y1 y2 y3 y4 y5 y6 y7 y8 y9 y10 y11 y12
   unfold chicanelaw14_NamesOne.j0
   repeat' first
   | (with_reducible exact ih0 _ _ _ _ _ _ _ _ _ _ _ _ _)
   | (with_reducible exact ih1 _ _ _ _ _ _ _ _ _ _ _ _ _ _ _ _)
   | (with_reducible exact chicanelaw14_alive.mono _)
   | (with_reducible exact chicanelaw14_does.mono _ _ _ _ _ _ _ _ _ _ _ _ _)
   | (with_reducible exact chicanelaw14_few.mono _ _)
   | (with_reducible exact chicaneref14_Find.mono _ _ _)
   | (with_reducible exact chicaneref14_Right.mono _ _)
   | (with_reducible exact chicaneref14_Same.mono _ _ _)
   | (with_reducible exact LeO.refl _)
   | (with_reducible exact LeO.none _)
   | (with_reducible refine LeO.ite ?_ ?_)
   | (with_reducible refine LeO.bind ?_ (fun _ => ?_))
   | exact ih0 _ _ _ _ _ _ _ _ _ _ _ _ _
   | exact ih1 _ _ _ _ _ _ _ _ _ _ _ _ _ _ _ _
   | exact chicanelaw14_alive.mono _
   | exact chicanelaw14_does.mono _ _ _ _ _ _ _ _ _ _ _ _ _
   | exact chicanelaw14_few.mono _ _
   | exact chicaneref14_Find.mono _ _ _
   | exact chicaneref14_Right.mono _ _
   | exact chicaneref14_Same.mono _ _ _
   | exact LeO.none _
   | refine LeO.ite ?_ ?_
   | refine LeO.bind ?_ (fun _ => ?_)
  ·intro y0 y1 y2 y3 y4 y5 y6 y7 y8 y9 y10 y11 y12 y13 y14 y15
   unfold chicanelaw14_NamesOne.l0
   repeat' first
   | (with_reducible exact ih0 _ _ _ _ _ _ _ _ _ _ _ _ _)
   | (with_reducible exact ih1 _ _ _ _ _ _ _ _ _ _ _ _ _ _ _ _)
   | (with_reducible exact chicanelaw14_alive.mono _)
   | (with_reducible exact chicanelaw14_does.mono _ _ _ _ _ _ _ _ _ _ _ _ _)
   | (with_reducible exact chicanelaw14_few.mono _ _)
   | (with_reducible exact chicaneref14_Find.mono _ _ _)
   | (with_reducible exact chicaneref14_Right.mono _ _)
   | (with_reducible exact chicaneref14_Same.mono _ _ _)
   | (with_reducible exact LeO.refl _)
   | (with_reducible exact LeO.none _)
   | (with_reducible refine LeO.ite ?_ ?_)
   | (with_reducible refine LeO.bind ?_ (fun _ => ?_))
   | exact ih0 _ _ _ _ _ _ _ _ _ _ _ _ _
   | exact ih1 _ _ _ _ _ _ _ _ _ _ _ _ _ _ _ _
   | exact chicanelaw14_alive.mono _
   | exact chicanelaw14_does.mono _ _ _ _ _ _ _ _ _ _ _ _ _
   | exact chicanelaw14_few.mono _ _
   | exact chicaneref14_Find.mono _ _ _
   | exact chicaneref14_Right.mono _ _
   | exact chicaneref14_Same.mono _ _ _
   | exact LeO.none _
   | refine LeO.ite ?_ ?_
   | refine LeO.bind ?_ (fun _ => ?_)
theorem chicanelaw14_NamesOne.mono : ∀ a0 a1 a2 a3 a4 a5 a6 a7 a8 a9 a10 a11 k, LeO (chicanelaw14_NamesOne.f k a0 a1 a2 a3 a4 a5 a6 a7 a8 a9 a10 a11) (chicanelaw14_NamesOne.f (k + 1) a0 a1 a2 a3 a4 a5 a6 a7 a8 a9 a10 a11) := by
 intro a0 a1 a2 a3 a4 a5 a6 a7 a8 a9 a10 a11 k
 obtain ⟨ih0, ih1⟩ := chicanelaw14_NamesOne.mono_l k
 unfold chicanelaw14_NamesOne.f
 repeat' first
   | (with_reducible exact ih0 _ _ _ _ _ _ _ _ _ _ _ _ _)
   | (with_reducible exact ih1 _ _ _ _ _ _ _ _ _ _ _ _ _ _ _ _)
   | (with_reducible exact chicanelaw14_alive.mono _)
   | (with_reducible exact chicanelaw14_does.mono _ _ _ _ _ _ _ _ _ _ _ _ _)
   | (with_reducible exact chicanelaw14_few.mono _ _)
   | (with_reducible exact chicaneref14_Find.mono _ _ _)
   | (with_reducible exact chicaneref14_Right.mono _ _)
   | (with_reducible exact chicaneref14_Same.mono _ _ _)
   | (with_reducible exact LeO.refl _)
   | (with_reducible exact LeO.none _)
   | (with_reducible refine LeO.ite ?_ ?_)
   | (with_reducible refine LeO.bind ?_ (fun _ => ?_))
   | exact ih0 _ _ _ _ _ _ _ _ _ _ _ _ _
   | exact ih1 _ _ _ _ _ _ _ _ _ _ _ _ _ _ _ _
   | exact chicanelaw14_alive.mono _
   | exact chicanelaw14_does.mono _ _ _ _ _ _ _ _ _ _ _ _ _
   | exact chicanelaw14_few.mono _ _
   | exact chicaneref14_Find.mono _ _ _
   | exact chicaneref14_Right.mono _ _
   | exact chicaneref14_Same.mono _ _ _
   | exact LeO.none _
   | refine LeO.ite ?_ ?_
   | refine LeO.bind ?_ (fun _ => ?_)
def chicanelaw14_NamesOne.T8 : Bool × List (List Nat × List Nat) := (true, [([], []), ([0], [0]), ([], []), ([2], [2]), ([1, 3], [1, 3]), ([4], [4]), ([5], [5]), ([6, 5], [5, 6]), ([7, 5, 5], [5, 7]), ([8], [8]), ([8], [8]), ([8], [8]), ([11, 8], [8, 11]), ([9, 10, 12, 8], [8, 9, 10, 12]), ([8], [8]), ([14, 8], [8, 14]), ([13, 15, 8, 8], [8, 13, 15]), ([16, 8], [8, 16]), ([8, 17, 5], [5, 8, 17]), ([5, 18], [5, 18])])
def chicanelaw14_NamesOne.B8 : List Nat := [0, 1, 0, 4, 15, 31, 63, 127, 255, 511, 511, 511, 2559, 8191, 511, 16895, 65535, 131071, 262143, 524287]
theorem chicanelaw14_NamesOne.tab8 : rtab .any (opsOf Tryz.f5 8) = chicanelaw14_NamesOne.T8 := by kernel_rfl
theorem chicanelaw14_NamesOne.bits8 : waitsOk chicanelaw14_NamesOne.T8.2 chicanelaw14_NamesOne.B8 = true := by kernel_rfl
set_option maxHeartbeats 8000000 in
set_option maxRecDepth 100000 in
theorem chicanelaw14_NamesOne.calls (k : Nat) (P0_ : Nat → Prop) (A0 : Option Addr) (c0 : Nat) (l0 : List (S39)) (a1_0 : Int) (a1_1 : Int) (a1_2 : ByteArray) (a1_3 : ByteArray) (a1_4 : Bool) (a1_5 : ByteArray) (a1_6 : Int) (a1_7 : Bool) (a1_8 : Int) (a1_9 : Int) (a1_10 : Int) (r : Bool) (w : World) (hs0 : Kd.V k39 39 w w.heap.size (fun k_ => P0_ k_) (.slice A0 l0.length c0) l0) (hr : r = true) (h : chicanelaw14_NamesOne.f k l0 a1_0 a1_1 a1_2 a1_3 a1_4 a1_5 a1_6 a1_7 a1_8 a1_9 a1_10 = some r) :
  Calls Tryz.prog 5 #[.slice A0 l0.length c0, .agg #[.int .i64 a1_0, .int .i64 a1_1, .string a1_2, .string a1_3, .bool a1_4, .string a1_5, .int .i64 a1_6, .bool a1_7, .int .i64 a1_8, .int .i64 a1_9, .int .i64 a1_10]] w fun e w' => e = .returned (.bool r) ∧ Below w.heap.size w w' := by
 have hu26 := Tryz.underlying26
 have hu39 := Tryz.underlying39
 have HO0 := zqd.mk (show Kd.V k39 39 w w.heap.size (fun k_ => (P0_ k_ ∨ w.heap.size ≤ k_)) (.slice A0 l0.length c0) l0 from Kd.V_mono hs0 (fun k_ hk => .inl hk))
 have HB := zqd.mk (Below.refl w.heap.size w)
 have H : ((chicanelaw14_few.f k l0).bind fun t347 => (if t347 = true then ((chicanelaw14_kind.f a1_0 a1_1 a1_2 a1_3 a1_4 a1_5 a1_6 a1_7 a1_8 a1_9 a1_10).bind fun t348 => (if t348 = true then ((chicaneref14_Right.f k l0).bind fun t349 => (if t349 = true then (chicanelaw14_NamesOne.j0 k l0 (a1_0 == 6) a1_0 a1_1 a1_2 a1_3 a1_4 a1_5 a1_6 a1_7 a1_8 a1_9 a1_10) else (chicanelaw14_NamesOne.j0 k l0 true a1_0 a1_1 a1_2 a1_3 a1_4 a1_5 a1_6 a1_7 a1_8 a1_9 a1_10))) else (chicanelaw14_NamesOne.j0 k l0 true a1_0 a1_1 a1_2 a1_3 a1_4 a1_5 a1_6 a1_7 a1_8 a1_9 a1_10))) else (chicanelaw14_NamesOne.j0 k l0 true a1_0 a1_1 a1_2 a1_3 a1_4 a1_5 a1_6 a1_7 a1_8 a1_9 a1_10))) = some r := h
 clear h
 have HC3 := zqd.mk H
 clear H
 go_enter Tryz.func5, Tryz.ntmps5
 go_upto_region 1 with (first | ((with_reducible refine gate_dst (N := 3) rfl ?_); (try (refine gate_guard (by rfl) ?_; dsimp only)); refine box_event ?hg (N := 3) ?hd (cs := #[.int .i64 a1_0, .int .i64 a1_1, .string a1_2, .string a1_3, .bool a1_4, .string a1_5, .int .i64 a1_6, .bool a1_7, .int .i64 a1_8, .int .i64 a1_9, .int .i64 a1_10]) (t := 26) ?hr ?_; (case hd => rfl); (case hg => rfl); (case hr => first | (go_simp; done) | (go_simp; rfl)); intro gb346 hg w4 hbox hb; have n0_ := zqd.mk (Kd.V_below (Kd.V_elderB (by (with_reducible repeat (first | apply Kd.V_alloc | apply Kd.V_drewN | apply Kd.V_drew)); exact HO0.out) gb346 (Nat.le_of_eq hg.symm)) hb); have n1_ := zqd.mk (below_step (by repeat (first | (with_reducible first | exact HB.out | apply zqj | apply zqb | apply zqf) | exact HB.out)) hb); have n2_ := zqd.mk (hbox); have n3_ := zqd.mk ((by rw [hg]; exact (below_size (by repeat (first | (with_reducible first | exact HB.out | apply zqj | apply zqb | apply zqf) | exact HB.out))) : w.heap.size ≤ gb346)); have n4_ := zqd.mk ((by rw [hg]; exact (below_size (by repeat (first | (with_reducible first | exact HB.out | apply zqj | apply zqb | apply zqf) | exact HB.out))) : w.heap.size ≤ gb346)); clear HO0; clear HB; have HO0 := n0_; have HB := n1_; have BK346 := n2_; have GW346 := n3_; have GE346 := n4_; clear n0_ n1_ n2_ n3_ n4_; clear hb hbox hg))
 (try simp only [Act.put, List.setIfInBounds_toArray, List.set_cons_zero, List.set_cons_succ])
 go_cut [27] (fun v27 wc => ∃ (kq : Nat) (x27_2 : Bool), v27 = .bool x27_2 ∧ zqd (chicanelaw14_NamesOne.j0 kq l0 x27_2 a1_0 a1_1 a1_2 a1_3 a1_4 a1_5 a1_6 a1_7 a1_8 a1_9 a1_10 = some r) ∧ zqd (kq ≤ k) ∧ zqd (Kd.V k39 39 wc w.heap.size (fun k_ => (P0_ k_ ∨ w.heap.size ≤ k_) ∧ k_ ≠ gb346) (.slice A0 l0.length c0) l0) ∧ zqd (wc.heap[gb346]? = some (.cells #[.int .i64 a1_0, .int .i64 a1_1, .string a1_2, .string a1_3, .bool a1_4, .string a1_5, .int .i64 a1_6, .bool a1_7, .int .i64 a1_8, .int .i64 a1_9, .int .i64 a1_10] 26 (0, 0))) ∧ zqd (Below w.heap.size w wc))
 case first =>
  have H := HC3.out
  clear HC3
  replace H := Option.bind_eq_some_iff.mp H
  obtain ⟨t347, A50, H⟩ := H
  replace H : (if t347 = true then ((chicanelaw14_kind.f a1_0 a1_1 a1_2 a1_3 a1_4 a1_5 a1_6 a1_7 a1_8 a1_9 a1_10).bind fun t348 => (if t348 = true then ((chicaneref14_Right.f k l0).bind fun t349 => (if t349 = true then (chicanelaw14_NamesOne.j0 k l0 (a1_0 == 6) a1_0 a1_1 a1_2 a1_3 a1_4 a1_5 a1_6 a1_7 a1_8 a1_9 a1_10) else (chicanelaw14_NamesOne.j0 k l0 true a1_0 a1_1 a1_2 a1_3 a1_4 a1_5 a1_6 a1_7 a1_8 a1_9 a1_10))) else (chicanelaw14_NamesOne.j0 k l0 true a1_0 a1_1 a1_2 a1_3 a1_4 a1_5 a1_6 a1_7 a1_8 a1_9 a1_10))) else (chicanelaw14_NamesOne.j0 k l0 true a1_0 a1_1 a1_2 a1_3 a1_4 a1_5 a1_6 a1_7 a1_8 a1_9 a1_10)) = some r := H
  have A5 := zqd.mk A50
  clear A50
  by_cases c6 : t347 = true
  ·subst c6
   have H1 : ((chicanelaw14_kind.f a1_0 a1_1 a1_2 a1_3 a1_4 a1_5 a1_6 a1_7 a1_8 a1_9 a1_10).bind fun t348 => (if t348 = true then ((chicaneref14_Right.f k l0).bind fun t349 => (if t349 = true then (chicanelaw14_NamesOne.j0 k l0 (a1_0 == 6) a1_0 a1_1 a1_2 a1_3 a1_4 a1_5 a1_6 a1_7 a1_8 a1_9 a1_10) else (chicanelaw14_NamesOne.j0 k l0 true a1_0 a1_1 a1_2 a1_3 a1_4 a1_5 a1_6 a1_7 a1_8 a1_9 a1_10))) else (chicanelaw14_NamesOne.j0 k l0 true a1_0 a1_1 a1_2 a1_3 a1_4 a1_5 a1_6 a1_7 a1_8 a1_9 a1_10))) = some r := by rw [if_pos rfl] at H; exact H
   clear H
   have H := H1
   clear H1
   replace H := Option.bind_eq_some_iff.mp H
   obtain ⟨t348, A70, H⟩ := H
   replace H : (if t348 = true then ((chicaneref14_Right.f k l0).bind fun t349 => (if t349 = true then (chicanelaw14_NamesOne.j0 k l0 (a1_0 == 6) a1_0 a1_1 a1_2 a1_3 a1_4 a1_5 a1_6 a1_7 a1_8 a1_9 a1_10) else (chicanelaw14_NamesOne.j0 k l0 true a1_0 a1_1 a1_2 a1_3 a1_4 a1_5 a1_6 a1_7 a1_8 a1_9 a1_10))) else (chicanelaw14_NamesOne.j0 k l0 true a1_0 a1_1 a1_2 a1_3 a1_4 a1_5 a1_6 a1_7 a1_8 a1_9 a1_10)) = some r := H
   have A7 := zqd.mk A70
   clear A70
   by_cases c8 : t348 = true
   ·subst c8
    have H1 : ((chicaneref14_Right.f k l0).bind fun t349 => (if t349 = true then (chicanelaw14_NamesOne.j0 k l0 (a1_0 == 6) a1_0 a1_1 a1_2 a1_3 a1_4 a1_5 a1_6 a1_7 a1_8 a1_9 a1_10) else (chicanelaw14_NamesOne.j0 k l0 true a1_0 a1_1 a1_2 a1_3 a1_4 a1_5 a1_6 a1_7 a1_8 a1_9 a1_10))) = some r := by rw [if_pos rfl] at H; exact H
    clear H
    have H := H1
    clear H1
    replace H := Option.bind_eq_some_iff.mp H
    obtain ⟨t349, A90, H⟩ := H
    replace H : (if t349 = true then (chicanelaw14_NamesOne.j0 k l0 (a1_0 == 6) a1_0 a1_1 a1_2 a1_3 a1_4 a1_5 a1_6 a1_7 a1_8 a1_9 a1_10) else (chicanelaw14_NamesOne.j0 k l0 true a1_0 a1_1 a1_2 a1_3 a1_4 a1_5 a1_6 a1_7 a1_8 a1_9 a1_10)) = some r := H
    have A9 := zqd.mk A90
    clear A90
    by_cases c10 : t349 = true
    ·subst c10
     have H1 : (chicanelaw14_NamesOne.j0 k l0 (a1_0 == 6) a1_0 a1_1 a1_2 a1_3 a1_4 a1_5 a1_6 a1_7 a1_8 a1_9 a1_10) = some r := by rw [if_pos rfl] at H; exact H
     clear H
     have H := H1
     clear H1
     have H' := zqd.mk H
     clear H
     go_wp2_with (first | ((with_reducible refine gate_callee (f := 6) rfl ?_); refine goesL_ (some 11) rfl rfl Tryz.func6 (by kernel_rfl) rfl #[.slice A0 l0.length c0] rfl (by (try simp only [List.map_toArray, List.map_cons, List.map_nil]); first | done | rfl | (simp only [List.length_drop, List.length_take]; rfl)) ?_; (with_reducible refine (chicanelaw14_few.calls k _ _ l0 true _ ?side1 ?side2 A5.out).mono ?_); (case side1 => repeat (first | exact (Kd.V_reads' HO0.out).2.2 | (with_reducible refine Kd.C_alloc ?_ _) | (with_reducible refine Kd.C_drewN ?_ _) | (with_reducible refine Kd.C_drew ?_))); (case side2 => exact (Kd.V_reads' HO0.out).2.1); rintro e w11 ⟨rfl, hb⟩; refine ⟨_, rfl, ?_⟩; have n0_ := zqd.mk (Kd.V_below (by (with_reducible repeat (first | apply Kd.V_alloc | apply Kd.V_drewN | apply Kd.V_drew)); exact HO0.out) hb); have n1_ := zqd.mk (blk_below (g := gb346) (o := .cells #[.int .i64 a1_0, .int .i64 a1_1, .string a1_2, .string a1_3, .bool a1_4, .string a1_5, .int .i64 a1_6, .bool a1_7, .int .i64 a1_8, .int .i64 a1_9, .int .i64 a1_10] 26 (0, 0)) (by (with_reducible repeat (first | refine zqg ?_ _ | refine zqi ?_ | refine zqh ?_ _)); exact BK346.out) hb); have n2_ := zqd.mk (below_step (by repeat (first | (with_reducible first | exact HB.out | apply zqj | apply zqb | apply zqf | refine zqk ?_ GE346.out) | exact HB.out)) hb); clear HO0; clear BK346; clear HB; have HO0 := n0_; have BK346 := n1_; have HB := n2_; clear n0_ n1_ n2_; (try clear hb); (try clear hb2); (try clear hk); (try clear hi); have hcz12_0 : w11.cell? ⟨gb346, 0, none⟩ = some (.int .i64 a1_0) := (zqc BK346.out 0).trans rfl; have hcz12_1 : w11.cell? ⟨gb346, 1, none⟩ = some (.int .i64 a1_1) := (zqc BK346.out 1).trans rfl; have hcz12_2 : w11.cell? ⟨gb346, 2, none⟩ = some (.string a1_2) := (zqc BK346.out 2).trans rfl; have hcz12_3 : w11.cell? ⟨gb346, 3, none⟩ = some (.string a1_3) := (zqc BK346.out 3).trans rfl; have hcz12_4 : w11.cell? ⟨gb346, 4, none⟩ = some (.bool a1_4) := (zqc BK346.out 4).trans rfl; have hcz12_5 : w11.cell? ⟨gb346, 5, none⟩ = some (.string a1_5) := (zqc BK346.out 5).trans rfl; have hcz12_6 : w11.cell? ⟨gb346, 6, none⟩ = some (.int .i64 a1_6) := (zqc BK346.out 6).trans rfl; have hcz12_7 : w11.cell? ⟨gb346, 7, none⟩ = some (.bool a1_7) := (zqc BK346.out 7).trans rfl; have hcz12_8 : w11.cell? ⟨gb346, 8, none⟩ = some (.int .i64 a1_8) := (zqc BK346.out 8).trans rfl; have hcz12_9 : w11.cell? ⟨gb346, 9, none⟩ = some (.int .i64 a1_9) := (zqc BK346.out 9).trans rfl; have hcz12_10 : w11.cell? ⟨gb346, 10, none⟩ = some (.int .i64 a1_10) := (zqc BK346.out 10).trans rfl; have hfz12_0 := zqa BK346.out 0; have hfz12_1 := zqa BK346.out 1; have hfz12_2 := zqa BK346.out 2; have hfz12_3 := zqa BK346.out 3; have hfz12_4 := zqa BK346.out 4; have hfz12_5 := zqa BK346.out 5; have hfz12_6 := zqa BK346.out 6; have hfz12_7 := zqa BK346.out 7; have hfz12_8 := zqa BK346.out 8; have hfz12_9 := zqa BK346.out 9; have hfz12_10 := zqa BK346.out 10) | (go_at_call 7; (with_reducible refine (chicanelaw14_kind.calls a1_0 a1_1 a1_2 a1_3 a1_4 a1_5 a1_6 a1_7 a1_8 a1_9 a1_10 true _ A7.out).mono ?_); rintro e w13 ⟨rfl, hb⟩; have n0_ := zqd.mk (Kd.V_below (by (with_reducible repeat (first | apply Kd.V_alloc | apply Kd.V_drewN | apply Kd.V_drew)); exact HO0.out) hb); have n1_ := zqd.mk (blk_below (g := gb346) (o := .cells #[.int .i64 a1_0, .int .i64 a1_1, .string a1_2, .string a1_3, .bool a1_4, .string a1_5, .int .i64 a1_6, .bool a1_7, .int .i64 a1_8, .int .i64 a1_9, .int .i64 a1_10] 26 (0, 0)) (by (with_reducible repeat (first | refine zqg ?_ _ | refine zqi ?_ | refine zqh ?_ _)); exact BK346.out) hb); have n2_ := zqd.mk (below_step (by repeat (first | (with_reducible first | exact HB.out | apply zqj | apply zqb | apply zqf | refine zqk ?_ GE346.out) | exact HB.out)) hb); clear HO0; clear BK346; clear HB; have HO0 := n0_; have BK346 := n1_; have HB := n2_; clear n0_ n1_ n2_; (try clear hb); (try clear hb2); (try clear hk); (try clear hi)) | (go_at_call 12; (with_reducible refine (chicaneref14_Right.calls k _ _ l0 true _ ?side1 ?side2 A9.out).mono ?_); (case side1 => repeat (first | exact (Kd.V_reads' HO0.out).2.2 | (with_reducible refine Kd.C_alloc ?_ _) | (with_reducible refine Kd.C_drewN ?_ _) | (with_reducible refine Kd.C_drew ?_))); (case side2 => exact (Kd.V_reads' HO0.out).2.1); rintro e w14 ⟨rfl, hb⟩; have n0_ := zqd.mk (Kd.V_below (by (with_reducible repeat (first | apply Kd.V_alloc | apply Kd.V_drewN | apply Kd.V_drew)); exact HO0.out) hb); have n1_ := zqd.mk (blk_below (g := gb346) (o := .cells #[.int .i64 a1_0, .int .i64 a1_1, .string a1_2, .string a1_3, .bool a1_4, .string a1_5, .int .i64 a1_6, .bool a1_7, .int .i64 a1_8, .int .i64 a1_9, .int .i64 a1_10] 26 (0, 0)) (by (with_reducible repeat (first | refine zqg ?_ _ | refine zqi ?_ | refine zqh ?_ _)); exact BK346.out) hb); have n2_ := zqd.mk (below_step (by repeat (first | (with_reducible first | exact HB.out | apply zqj | apply zqb | apply zqf | refine zqk ?_ GE346.out) | exact HB.out)) hb); clear HO0; clear BK346; clear HB; have HO0 := n0_; have BK346 := n1_; have HB := n2_; clear n0_ n1_ n2_; (try clear hb); (try clear hb2); (try clear hk); (try clear hi); have hcz15_0 : w14.cell? ⟨gb346, 0, none⟩ = some (.int .i64 a1_0) := (zqc BK346.out 0).trans rfl; have hcz15_1 : w14.cell? ⟨gb346, 1, none⟩ = some (.int .i64 a1_1) := (zqc BK346.out 1).trans rfl; have hcz15_2 : w14.cell? ⟨gb346, 2, none⟩ = some (.string a1_2) := (zqc BK346.out 2).trans rfl; have hcz15_3 : w14.cell? ⟨gb346, 3, none⟩ = some (.string a1_3) := (zqc BK346.out 3).trans rfl; have hcz15_4 : w14.cell? ⟨gb346, 4, none⟩ = some (.bool a1_4) := (zqc BK346.out 4).trans rfl; have hcz15_5 : w14.cell? ⟨gb346, 5, none⟩ = some (.string a1_5) := (zqc BK346.out 5).trans rfl; have hcz15_6 : w14.cell? ⟨gb346, 6, none⟩ = some (.int .i64 a1_6) := (zqc BK346.out 6).trans rfl; have hcz15_7 : w14.cell? ⟨gb346, 7, none⟩ = some (.bool a1_7) := (zqc BK346.out 7).trans rfl; have hcz15_8 : w14.cell? ⟨gb346, 8, none⟩ = some (.int .i64 a1_8) := (zqc BK346.out 8).trans rfl; have hcz15_9 : w14.cell? ⟨gb346, 9, none⟩ = some (.int .i64 a1_9) := (zqc BK346.out 9).trans rfl; have hcz15_10 : w14.cell? ⟨gb346, 10, none⟩ = some (.int .i64 a1_10) := (zqc BK346.out 10).trans rfl; have hfz15_0 := zqa BK346.out 0; have hfz15_1 := zqa BK346.out 1; have hfz15_2 := zqa BK346.out 2; have hfz15_3 := zqa BK346.out 3; have hfz15_4 := zqa BK346.out 4; have hfz15_5 := zqa BK346.out 5; have hfz15_6 := zqa BK346.out 6; have hfz15_7 := zqa BK346.out 7; have hfz15_8 := zqa BK346.out 8; have hfz15_9 := zqa BK346.out 9; have hfz15_10 := zqa BK346.out 10))
     go_meet
     case rel => exact ⟨_, ((a1_0 == 6)), (by first | rfl | (simp; done) | (simp [*]; done)), H', ⟨by first | omega | exact Nat.le_refl _⟩, ⟨by (with_reducible repeat (first | apply Kd.V_alloc | apply Kd.V_drewN | apply Kd.V_drew)); exact HO0.out⟩, ⟨by (with_reducible repeat (first | refine zqg ?_ _ | refine zqi ?_ | refine zqh ?_ _)); exact BK346.out⟩, ⟨by repeat (first | (with_reducible first | exact HB.out | apply zqj | apply zqb | apply zqf | refine zqk ?_ GE346.out) | exact HB.out)⟩⟩
    ·replace c10 := Bool.eq_false_iff.mpr c10
     subst c10
     have H1 : (chicanelaw14_NamesOne.j0 k l0 true a1_0 a1_1 a1_2 a1_3 a1_4 a1_5 a1_6 a1_7 a1_8 a1_9 a1_10) = some r := by rw [if_neg (show ¬ (false = true) by decide)] at H; exact H
     clear H
     have H := H1
     clear H1
     have H' := zqd.mk H
     clear H
     go_wp2_with (first | ((with_reducible refine gate_callee (f := 6) rfl ?_); refine goesL_ (some 11) rfl rfl Tryz.func6 (by kernel_rfl) rfl #[.slice A0 l0.length c0] rfl (by (try simp only [List.map_toArray, List.map_cons, List.map_nil]); first | done | rfl | (simp only [List.length_drop, List.length_take]; rfl)) ?_; (with_reducible refine (chicanelaw14_few.calls k _ _ l0 true _ ?side1 ?side2 A5.out).mono ?_); (case side1 => repeat (first | exact (Kd.V_reads' HO0.out).2.2 | (with_reducible refine Kd.C_alloc ?_ _) | (with_reducible refine Kd.C_drewN ?_ _) | (with_reducible refine Kd.C_drew ?_))); (case side2 => exact (Kd.V_reads' HO0.out).2.1); rintro e w16 ⟨rfl, hb⟩; refine ⟨_, rfl, ?_⟩; have n0_ := zqd.mk (Kd.V_below (by (with_reducible repeat (first | apply Kd.V_alloc | apply Kd.V_drewN | apply Kd.V_drew)); exact HO0.out) hb); have n1_ := zqd.mk (blk_below (g := gb346) (o := .cells #[.int .i64 a1_0, .int .i64 a1_1, .string a1_2, .string a1_3, .bool a1_4, .string a1_5, .int .i64 a1_6, .bool a1_7, .int .i64 a1_8, .int .i64 a1_9, .int .i64 a1_10] 26 (0, 0)) (by (with_reducible repeat (first | refine zqg ?_ _ | refine zqi ?_ | refine zqh ?_ _)); exact BK346.out) hb); have n2_ := zqd.mk (below_step (by repeat (first | (with_reducible first | exact HB.out | apply zqj | apply zqb | apply zqf | refine zqk ?_ GE346.out) | exact HB.out)) hb); clear HO0; clear BK346; clear HB; have HO0 := n0_; have BK346 := n1_; have HB := n2_; clear n0_ n1_ n2_; (try clear hb); (try clear hb2); (try clear hk); (try clear hi); have hcz17_0 : w16.cell? ⟨gb346, 0, none⟩ = some (.int .i64 a1_0) := (zqc BK346.out 0).trans rfl; have hcz17_1 : w16.cell? ⟨gb346, 1, none⟩ = some (.int .i64 a1_1) := (zqc BK346.out 1).trans rfl; have hcz17_2 : w16.cell? ⟨gb346, 2, none⟩ = some (.string a1_2) := (zqc BK346.out 2).trans rfl; have hcz17_3 : w16.cell? ⟨gb346, 3, none⟩ = some (.string a1_3) := (zqc BK346.out 3).trans rfl; have hcz17_4 : w16.cell? ⟨gb346, 4, none⟩ = some (.bool a1_4) := (zqc BK346.out 4).trans rfl; have hcz17_5 : w16.cell? ⟨gb346, 5, none⟩ = some (.string a1_5) := (zqc BK346.out 5).trans rfl; have hcz17_6 : w16.cell? ⟨gb346, 6, none⟩ = some (.int .i64 a1_6) := (zqc BK346.out 6).trans rfl; have hcz17_7 : w16.cell? ⟨gb346, 7, none⟩ = some (.bool a1_7) := (zqc BK346.out 7).trans rfl; have hcz17_8 : w16.cell? ⟨gb346, 8, none⟩ = some (.int .i64 a1_8) := (zqc BK346.out 8).trans rfl; have hcz17_9 : w16.cell? ⟨gb346, 9, none⟩ = some (.int .i64 a1_9) := (zqc BK346.out 9).trans rfl; have hcz17_10 : w16.cell? ⟨gb346, 10, none⟩ = some (.int .i64 a1_10) := (zqc BK346.out 10).trans rfl; have hfz17_0 := zqa BK346.out 0; have hfz17_1 := zqa BK346.out 1; have hfz17_2 := zqa BK346.out 2; have hfz17_3 := zqa BK346.out 3; have hfz17_4 := zqa BK346.out 4; have hfz17_5 := zqa BK346.out 5; have hfz17_6 := zqa BK346.out 6; have hfz17_7 := zqa BK346.out 7; have hfz17_8 := zqa BK346.out 8; have hfz17_9 := zqa BK346.out 9; have hfz17_10 := zqa BK346.out 10) | (go_at_call 7; (with_reducible refine (chicanelaw14_kind.calls a1_0 a1_1 a1_2 a1_3 a1_4 a1_5 a1_6 a1_7 a1_8 a1_9 a1_10 true _ A7.out).mono ?_); rintro e w18 ⟨rfl, hb⟩; have n0_ := zqd.mk (Kd.V_below (by (with_reducible repeat (first | apply Kd.V_alloc | apply Kd.V_drewN | apply Kd.V_drew)); exact HO0.out) hb); have n1_ := zqd.mk (blk_below (g := gb346) (o := .cells #[.int .i64 a1_0, .int .i64 a1_1, .string a1_2, .string a1_3, .bool a1_4, .string a1_5, .int .i64 a1_6, .bool a1_7, .int .i64 a1_8, .int .i64 a1_9, .int .i64 a1_10] 26 (0, 0)) (by (with_reducible repeat (first | refine zqg ?_ _ | refine zqi ?_ | refine zqh ?_ _)); exact BK346.out) hb); have n2_ := zqd.mk (below_step (by repeat (first | (with_reducible first | exact HB.out | apply zqj | apply zqb | apply zqf | refine zqk ?_ GE346.out) | exact HB.out)) hb); clear HO0; clear BK346; clear HB; have HO0 := n0_; have BK346 := n1_; have HB := n2_; clear n0_ n1_ n2_; (try clear hb); (try clear hb2); (try clear hk); (try clear hi)) | (go_at_call 12; (with_reducible refine (chicaneref14_Right.calls k _ _ l0 false _ ?side1 ?side2 A9.out).mono ?_); (case side1 => repeat (first | exact (Kd.V_reads' HO0.out).2.2 | (with_reducible refine Kd.C_alloc ?_ _) | (with_reducible refine Kd.C_drewN ?_ _) | (with_reducible refine Kd.C_drew ?_))); (case side2 => exact (Kd.V_reads' HO0.out).2.1); rintro e w19 ⟨rfl, hb⟩; have n0_ := zqd.mk (Kd.V_below (by (with_reducible repeat (first | apply Kd.V_alloc | apply Kd.V_drewN | apply Kd.V_drew)); exact HO0.out) hb); have n1_ := zqd.mk (blk_below (g := gb346) (o := .cells #[.int .i64 a1_0, .int .i64 a1_1, .string a1_2, .string a1_3, .bool a1_4, .string a1_5, .int .i64 a1_6, .bool a1_7, .int .i64 a1_8, .int .i64 a1_9, .int .i64 a1_10] 26 (0, 0)) (by (with_reducible repeat (first | refine zqg ?_ _ | refine zqi ?_ | refine zqh ?_ _)); exact BK346.out) hb); have n2_ := zqd.mk (below_step (by repeat (first | (with_reducible first | exact HB.out | apply zqj | apply zqb | apply zqf | refine zqk ?_ GE346.out) | exact HB.out)) hb); clear HO0; clear BK346; clear HB; have HO0 := n0_; have BK346 := n1_; have HB := n2_; clear n0_ n1_ n2_; (try clear hb); (try clear hb2); (try clear hk); (try clear hi)))
     go_meet
     case rel => exact ⟨_, (true), (by first | rfl | (simp; done) | (simp [*]; done)), H', ⟨by first | omega | exact Nat.le_refl _⟩, ⟨by (with_reducible repeat (first | apply Kd.V_alloc | apply Kd.V_drewN | apply Kd.V_drew)); exact HO0.out⟩, ⟨by (with_reducible repeat (first | refine zqg ?_ _ | refine zqi ?_ | refine zqh ?_ _)); exact BK346.out⟩, ⟨by repeat (first | (with_reducible first | exact HB.out | apply zqj | apply zqb | apply zqf | refine zqk ?_ GE346.out) | exact HB.out)⟩⟩
   ·replace c8 := Bool.eq_false_iff.mpr c8
    subst c8
    have H1 : (chicanelaw14_NamesOne.j0 k l0 true a1_0 a1_1 a1_2 a1_3 a1_4 a1_5 a1_6 a1_7 a1_8 a1_9 a1_10) = some r := by rw [if_neg (show ¬ (false = true) by decide)] at H; exact H
    clear H
    have H := H1
    clear H1
    have H' := zqd.mk H
    clear H
    go_wp2_with (first | ((with_reducible refine gate_callee (f := 6) rfl ?_); refine goesL_ (some 11) rfl rfl Tryz.func6 (by kernel_rfl) rfl #[.slice A0 l0.length c0] rfl (by (try simp only [List.map_toArray, List.map_cons, List.map_nil]); first | done | rfl | (simp only [List.length_drop, List.length_take]; rfl)) ?_; (with_reducible refine (chicanelaw14_few.calls k _ _ l0 true _ ?side1 ?side2 A5.out).mono ?_); (case side1 => repeat (first | exact (Kd.V_reads' HO0.out).2.2 | (with_reducible refine Kd.C_alloc ?_ _) | (with_reducible refine Kd.C_drewN ?_ _) | (with_reducible refine Kd.C_drew ?_))); (case side2 => exact (Kd.V_reads' HO0.out).2.1); rintro e w20 ⟨rfl, hb⟩; refine ⟨_, rfl, ?_⟩; have n0_ := zqd.mk (Kd.V_below (by (with_reducible repeat (first | apply Kd.V_alloc | apply Kd.V_drewN | apply Kd.V_drew)); exact HO0.out) hb); have n1_ := zqd.mk (blk_below (g := gb346) (o := .cells #[.int .i64 a1_0, .int .i64 a1_1, .string a1_2, .string a1_3, .bool a1_4, .string a1_5, .int .i64 a1_6, .bool a1_7, .int .i64 a1_8, .int .i64 a1_9, .int .i64 a1_10] 26 (0, 0)) (by (with_reducible repeat (first | refine zqg ?_ _ | refine zqi ?_ | refine zqh ?_ _)); exact BK346.out) hb); have n2_ := zqd.mk (below_step (by repeat (first | (with_reducible first | exact HB.out | apply zqj | apply zqb | apply zqf | refine zqk ?_ GE346.out) | exact HB.out)) hb); clear HO0; clear BK346; clear HB; have HO0 := n0_; have BK346 := n1_; have HB := n2_; clear n0_ n1_ n2_; (try clear hb); (try clear hb2); (try clear hk); (try clear hi); have hcz21_0 : w20.cell? ⟨gb346, 0, none⟩ = some (.int .i64 a1_0) := (zqc BK346.out 0).trans rfl; have hcz21_1 : w20.cell? ⟨gb346, 1, none⟩ = some (.int .i64 a1_1) := (zqc BK346.out 1).trans rfl; have hcz21_2 : w20.cell? ⟨gb346, 2, none⟩ = some (.string a1_2) := (zqc BK346.out 2).trans rfl; have hcz21_3 : w20.cell? ⟨gb346, 3, none⟩ = some (.string a1_3) := (zqc BK346.out 3).trans rfl; have hcz21_4 : w20.cell? ⟨gb346, 4, none⟩ = some (.bool a1_4) := (zqc BK346.out 4).trans rfl; have hcz21_5 : w20.cell? ⟨gb346, 5, none⟩ = some (.string a1_5) := (zqc BK346.out 5).trans rfl; have hcz21_6 : w20.cell? ⟨gb346, 6, none⟩ = some (.int .i64 a1_6) := (zqc BK346.out 6).trans rfl; have hcz21_7 : w20.cell? ⟨gb346, 7, none⟩ = some (.bool a1_7) := (zqc BK346.out 7).trans rfl; have hcz21_8 : w20.cell? ⟨gb346, 8, none⟩ = some (.int .i64 a1_8) := (zqc BK346.out 8).trans rfl; have hcz21_9 : w20.cell? ⟨gb346, 9, none⟩ = some (.int .i64 a1_9) := (zqc BK346.out 9).trans rfl; have hcz21_10 : w20.cell? ⟨gb346, 10, none⟩ = some (.int .i64 a1_10) := (zqc BK346.out 10).trans rfl; have hfz21_0 := zqa BK346.out 0; have hfz21_1 := zqa BK346.out 1; have hfz21_2 := zqa BK346.out 2; have hfz21_3 := zqa BK346.out 3; have hfz21_4 := zqa BK346.out 4; have hfz21_5 := zqa BK346.out 5; have hfz21_6 := zqa BK346.out 6; have hfz21_7 := zqa BK346.out 7; have hfz21_8 := zqa BK346.out 8; have hfz21_9 := zqa BK346.out 9; have hfz21_10 := zqa BK346.out 10) | (go_at_call 7; (with_reducible refine (chicanelaw14_kind.calls a1_0 a1_1 a1_2 a1_3 a1_4 a1_5 a1_6 a1_7 a1_8 a1_9 a1_10 false _ A7.out).mono ?_); rintro e w22 ⟨rfl, hb⟩; have n0_ := zqd.mk (Kd.V_below (by (with_reducible repeat (first | apply Kd.V_alloc | apply Kd.V_drewN | apply Kd.V_drew)); exact HO0.out) hb); have n1_ := zqd.mk (blk_below (g := gb346) (o := .cells #[.int .i64 a1_0, .int .i64 a1_1, .string a1_2, .string a1_3, .bool a1_4, .string a1_5, .int .i64 a1_6, .bool a1_7, .int .i64 a1_8, .int .i64 a1_9, .int .i64 a1_10] 26 (0, 0)) (by (with_reducible repeat (first | refine zqg ?_ _ | refine zqi ?_ | refine zqh ?_ _)); exact BK346.out) hb); have n2_ := zqd.mk (below_step (by repeat (first | (with_reducible first | exact HB.out | apply zqj | apply zqb | apply zqf | refine zqk ?_ GE346.out) | exact HB.out)) hb); clear HO0; clear BK346; clear HB; have HO0 := n0_; have BK346 := n1_; have HB := n2_; clear n0_ n1_ n2_; (try clear hb); (try clear hb2); (try clear hk); (try clear hi)))
    go_meet
    case rel => exact ⟨_, (true), (by first | rfl | (simp; done) | (simp [*]; done)), H', ⟨by first | omega | exact Nat.le_refl _⟩, ⟨by (with_reducible repeat (first | apply Kd.V_alloc | apply Kd.V_drewN | apply Kd.V_drew)); exact HO0.out⟩, ⟨by (with_reducible repeat (first | refine zqg ?_ _ | refine zqi ?_ | refine zqh ?_ _)); exact BK346.out⟩, ⟨by repeat (first | (with_reducible first | exact HB.out | apply zqj | apply zqb | apply zqf | refine zqk ?_ GE346.out) | exact HB.out)⟩⟩
  ·replace c6 := Bool.eq_false_iff.mpr c6
   subst c6
   have H1 : (chicanelaw14_NamesOne.j0 k l0 true a1_0 a1_1 a1_2 a1_3 a1_4 a1_5 a1_6 a1_7 a1_8 a1_9 a1_10) = some r := by rw [if_neg (show ¬ (false = true) by decide)] at H; exact H
   clear H
   have H := H1
   clear H1
   have H' := zqd.mk H
   clear H
   go_wp2_with (first | ((with_reducible refine gate_callee (f := 6) rfl ?_); refine goesL_ (some 11) rfl rfl Tryz.func6 (by kernel_rfl) rfl #[.slice A0 l0.length c0] rfl (by (try simp only [List.map_toArray, List.map_cons, List.map_nil]); first | done | rfl | (simp only [List.length_drop, List.length_take]; rfl)) ?_; (with_reducible refine (chicanelaw14_few.calls k _ _ l0 false _ ?side1 ?side2 A5.out).mono ?_); (case side1 => repeat (first | exact (Kd.V_reads' HO0.out).2.2 | (with_reducible refine Kd.C_alloc ?_ _) | (with_reducible refine Kd.C_drewN ?_ _) | (with_reducible refine Kd.C_drew ?_))); (case side2 => exact (Kd.V_reads' HO0.out).2.1); rintro e w23 ⟨rfl, hb⟩; refine ⟨_, rfl, ?_⟩; have n0_ := zqd.mk (Kd.V_below (by (with_reducible repeat (first | apply Kd.V_alloc | apply Kd.V_drewN | apply Kd.V_drew)); exact HO0.out) hb); have n1_ := zqd.mk (blk_below (g := gb346) (o := .cells #[.int .i64 a1_0, .int .i64 a1_1, .string a1_2, .string a1_3, .bool a1_4, .string a1_5, .int .i64 a1_6, .bool a1_7, .int .i64 a1_8, .int .i64 a1_9, .int .i64 a1_10] 26 (0, 0)) (by (with_reducible repeat (first | refine zqg ?_ _ | refine zqi ?_ | refine zqh ?_ _)); exact BK346.out) hb); have n2_ := zqd.mk (below_step (by repeat (first | (with_reducible first | exact HB.out | apply zqj | apply zqb | apply zqf | refine zqk ?_ GE346.out) | exact HB.out)) hb); clear HO0; clear BK346; clear HB; have HO0 := n0_; have BK346 := n1_; have HB := n2_; clear n0_ n1_ n2_; (try clear hb); (try clear hb2); (try clear hk); (try clear hi)))
   go_meet
   case rel => exact ⟨_, (true), (by first | rfl | (simp; done) | (simp [*]; done)), H', ⟨by first | omega | exact Nat.le_refl _⟩, ⟨by (with_reducible repeat (first | apply Kd.V_alloc | apply Kd.V_drewN | apply Kd.V_drew)); exact HO0.out⟩, ⟨by (with_reducible repeat (first | refine zqg ?_ _ | refine zqi ?_ | refine zqh ?_ _)); exact BK346.out⟩, ⟨by repeat (first | (with_reducible first | exact HB.out | apply zqj | apply zqb | apply zqf | refine zqk ?_ GE346.out) | exact HB.out)⟩⟩
 case rest =>
  clear HC3
  try clear c1
  try clear p2
  try clear c5
  try clear c6
  try clear c8
  try clear c10
  try clear hcz12_0
  try clear hcz12_1
  try clear hcz12_10
  try clear hcz12_2
  try clear hcz12_3
  try clear hcz12_4
  try clear hcz12_5
  try clear hcz12_6
  try clear hcz12_7
  try clear hcz12_8
  try clear hcz12_9
  try clear hcz15_0
  try clear hcz15_1
  try clear hcz15_10
  try clear hcz15_2
  try clear hcz15_3
  try clear hcz15_4
  try clear hcz15_5
  try clear hcz15_6
  try clear hcz15_7
  try clear hcz15_8
  try clear hcz15_9
  try clear hcz17_0
  try clear hcz17_1
  try clear hcz17_10
  try clear hcz17_2
  try clear hcz17_3
  try clear hcz17_4
  try clear hcz17_5
  try clear hcz17_6
  try clear hcz17_7
  try clear hcz17_8
  try clear hcz17_9
  try clear hcz21_0
  try clear hcz21_1
  try clear hcz21_10
  try clear hcz21_2
  try clear hcz21_3
  try clear hcz21_4
  try clear hcz21_5
  try clear hcz21_6
  try clear hcz21_7
  try clear hcz21_8
  try clear hcz21_9
  try clear hfz12_0
  try clear hfz12_1
  try clear hfz12_10
  try clear hfz12_2
  try clear hfz12_3
  try clear hfz12_4
  try clear hfz12_5
  try clear hfz12_6
  try clear hfz12_7
  try clear hfz12_8
  try clear hfz12_9
  try clear hfz15_0
  try clear hfz15_1
  try clear hfz15_10
  try clear hfz15_2
  try clear hfz15_3
  try clear hfz15_4
  try clear hfz15_5
  try clear hfz15_6
  try clear hfz15_7
  try clear hfz15_8
  try clear hfz15_9
  try clear hfz17_0
  try clear hfz17_1
  try clear hfz17_10
  try clear hfz17_2
  try clear hfz17_3
  try clear hfz17_4
  try clear hfz17_5
  try clear hfz17_6
  try clear hfz17_7
  try clear hfz17_8
  try clear hfz17_9
  try clear hfz21_0
  try clear hfz21_1
  try clear hfz21_10
  try clear hfz21_2
  try clear hfz21_3
  try clear hfz21_4
  try clear hfz21_5
  try clear hfz21_6
  try clear hfz21_7
  try clear hfz21_8
  try clear hfz21_9
  obtain ⟨kq, x27_2, rfl, HA, HJ2, HO_0, BK346, HB⟩ := hcut
  cases kq with
  | zero => exact absurd HA.out (by simp [chicanelaw14_NamesOne.j0])
  | succ kj2 =>
   have H := HA.out
   clear HA
   simp only [chicanelaw14_NamesOne.j0] at H
   by_cases c24 : x27_2 = true
   ·subst c24
    have H1 : ((chicanelaw14_alive.f kj2).bind fun t350 => (some t350)) = some r := by rw [if_pos rfl] at H; exact H
    clear H
    have H := H1
    clear H1
    replace H := Option.bind_eq_some_iff.mp H
    obtain ⟨t350, A250, H⟩ := H
    replace H : (some t350) = some r := H
    have A25 := zqd.mk A250
    clear A250
    obtain rfl := Option.some.inj H
    go_wp2_with (first | ((with_reducible refine gate_callee (f := 8) rfl ?_); refine goesL_ (some 28) rfl rfl Tryz.func8 (by kernel_rfl) rfl #[] rfl (by (try simp only [List.map_toArray, List.map_cons, List.map_nil]); first | done | rfl | (simp only [List.length_drop, List.length_take]; rfl)) ?_; (with_reducible refine (chicanelaw14_alive.calls kj2  t350 _ A25.out).mono ?_); rintro e w26 ⟨rfl, hb⟩; refine ⟨_, rfl, ?_⟩; have n0_ := zqd.mk (Kd.V_below (by (with_reducible repeat (first | apply Kd.V_alloc | apply Kd.V_drewN | apply Kd.V_drew)); exact HO_0.out) hb); have n1_ := zqd.mk (blk_below (g := gb346) (o := .cells #[.int .i64 a1_0, .int .i64 a1_1, .string a1_2, .string a1_3, .bool a1_4, .string a1_5, .int .i64 a1_6, .bool a1_7, .int .i64 a1_8, .int .i64 a1_9, .int .i64 a1_10] 26 (0, 0)) (by (with_reducible repeat (first | refine zqg ?_ _ | refine zqi ?_ | refine zqh ?_ _)); exact BK346.out) hb); have n2_ := zqd.mk (below_step (by repeat (first | (with_reducible first | exact HB.out | apply zqj | apply zqb | apply zqf | refine zqk ?_ GE346.out) | exact HB.out)) hb); clear HO_0; clear BK346; clear HB; have HO_0 := n0_; have BK346 := n1_; have HB := n2_; clear n0_ n1_ n2_; (try clear hb); (try clear hb2); (try clear hk); (try clear hi)))
    go_ret
    exact ⟨by first | rfl | (simp [errW_none, errW_some] <;> rfl) | (simp [*, errW_none, errW_some] <;> rfl), by repeat (first | (with_reducible first | exact HB.out | apply zqj | apply zqb | apply zqf | refine zqk ?_ GE346.out) | exact HB.out)⟩
   ·replace c24 := Bool.eq_false_iff.mpr c24
    subst c24
    have H1 : ((chicanelaw14_does.f kj2 l0 a1_0 a1_1 a1_2 a1_3 a1_4 a1_5 a1_6 a1_7 a1_8 a1_9 a1_10).bind fun bt351 => (chicanelaw14_NamesOne.l0 kj2 l0 bt351.1 l0 (l0.length : Int) 0 a1_0 a1_1 a1_2 a1_3 a1_4 a1_5 a1_6 a1_7 a1_8 a1_9 a1_10)) = some r := by rw [if_neg (show ¬ (false = true) by decide)] at H; exact H
    clear H
    have H := H1
    clear H1
    replace H := Option.bind_eq_some_iff.mp H
    obtain ⟨⟨t351, t354⟩, A270, H⟩ := H
    replace H : (chicanelaw14_NamesOne.l0 kj2 l0 t351 l0 (l0.length : Int) 0 a1_0 a1_1 a1_2 a1_3 a1_4 a1_5 a1_6 a1_7 a1_8 a1_9 a1_10) = some r := H
    have A27 := zqd.mk A270
    clear A270
    have H' := zqd.mk H
    clear H
    have hcz28_0 : wc.cell? ⟨gb346, 0, none⟩ = some (.int .i64 a1_0) := (zqc BK346.out 0).trans rfl
    have hcz28_1 : wc.cell? ⟨gb346, 1, none⟩ = some (.int .i64 a1_1) := (zqc BK346.out 1).trans rfl
    have hcz28_2 : wc.cell? ⟨gb346, 2, none⟩ = some (.string a1_2) := (zqc BK346.out 2).trans rfl
    have hcz28_3 : wc.cell? ⟨gb346, 3, none⟩ = some (.string a1_3) := (zqc BK346.out 3).trans rfl
    have hcz28_4 : wc.cell? ⟨gb346, 4, none⟩ = some (.bool a1_4) := (zqc BK346.out 4).trans rfl
    have hcz28_5 : wc.cell? ⟨gb346, 5, none⟩ = some (.string a1_5) := (zqc BK346.out 5).trans rfl
    have hcz28_6 : wc.cell? ⟨gb346, 6, none⟩ = some (.int .i64 a1_6) := (zqc BK346.out 6).trans rfl
    have hcz28_7 : wc.cell? ⟨gb346, 7, none⟩ = some (.bool a1_7) := (zqc BK346.out 7).trans rfl
    have hcz28_8 : wc.cell? ⟨gb346, 8, none⟩ = some (.int .i64 a1_8) := (zqc BK346.out 8).trans rfl
    have hcz28_9 : wc.cell? ⟨gb346, 9, none⟩ = some (.int .i64 a1_9) := (zqc BK346.out 9).trans rfl
    have hcz28_10 : wc.cell? ⟨gb346, 10, none⟩ = some (.int .i64 a1_10) := (zqc BK346.out 10).trans rfl
    have hfz28_0 := zqa BK346.out 0
    have hfz28_1 := zqa BK346.out 1
    have hfz28_2 := zqa BK346.out 2
    have hfz28_3 := zqa BK346.out 3
    have hfz28_4 := zqa BK346.out 4
    have hfz28_5 := zqa BK346.out 5
    have hfz28_6 := zqa BK346.out 6
    have hfz28_7 := zqa BK346.out 7
    have hfz28_8 := zqa BK346.out 8
    have hfz28_9 := zqa BK346.out 9
    have hfz28_10 := zqa BK346.out 10
    go_wp2_with (first | ((with_reducible refine gate_callee (f := 9) rfl ?_); refine goesL_ (some 32) rfl rfl Tryz.func9 (by kernel_rfl) rfl #[.slice A0 l0.length c0, .agg #[.int .i64 a1_0, .int .i64 a1_1, .string a1_2, .string a1_3, .bool a1_4, .string a1_5, .int .i64 a1_6, .bool a1_7, .int .i64 a1_8, .int .i64 a1_9, .int .i64 a1_10]] rfl (by (try simp only [List.map_toArray, List.map_cons, List.map_nil]); first | done | rfl | (simp only [List.length_drop, List.length_take]; rfl)) ?_; (with_reducible refine (chicanelaw14_does.calls kj2 _ _ l0 a1_0 a1_1 a1_2 a1_3 a1_4 a1_5 a1_6 a1_7 a1_8 a1_9 a1_10 t351 t354 _ ?side1 ?side2 A27.out).mono ?_); (case side1 => repeat (first | exact (Kd.V_reads' HO_0.out).2.2 | (with_reducible refine Kd.C_alloc ?_ _) | (with_reducible refine Kd.C_drewN ?_ _) | (with_reducible refine Kd.C_drew ?_))); (case side2 => exact (Kd.V_reads' HO_0.out).2.1); rintro e w29 ⟨v352, rfl, ho0, hb⟩; refine ⟨_, rfl, ?_⟩; have n0_ := zqd.mk (Kd.V_elder' (by (with_reducible repeat (first | apply Kd.V_alloc | apply Kd.V_drewN | apply Kd.V_drew)); exact HO_0.out) (Kd.N_base (Kd.S_N ho0)) hb); have n1_ := zqd.mk (Kd.N_lower (Kd.N_mono (ok' := fun k_ => (P0_ k_ ∨ w.heap.size ≤ k_) ∧ k_ ≠ gb346) (Kd.S_N (Kd.S_bound ho0)) (fun k_ hk_ => ⟨(.inr (Nat.le_trans (below_size (by repeat (first | (with_reducible first | exact HB.out | apply zqj | apply zqb | apply zqf | refine zqk ?_ GE346.out) | exact HB.out))) hk_.2.1)), (Kd.freshB (g := gb346) (o := .cells #[.int .i64 a1_0, .int .i64 a1_1, .string a1_2, .string a1_3, .bool a1_4, .string a1_5, .int .i64 a1_6, .bool a1_7, .int .i64 a1_8, .int .i64 a1_9, .int .i64 a1_10] 26 (0, 0)) (by (with_reducible repeat (first | refine zqg ?_ _ | refine zqi ?_ | refine zqh ?_ _)); exact BK346.out) k_ hk_.2.1)⟩)) (below_size (by repeat (first | (with_reducible first | exact HB.out | apply zqj | apply zqb | apply zqf | refine zqk ?_ GE346.out) | exact HB.out)))); have n2_ := zqd.mk (blk_below (g := gb346) (o := .cells #[.int .i64 a1_0, .int .i64 a1_1, .string a1_2, .string a1_3, .bool a1_4, .string a1_5, .int .i64 a1_6, .bool a1_7, .int .i64 a1_8, .int .i64 a1_9, .int .i64 a1_10] 26 (0, 0)) (by (with_reducible repeat (first | refine zqg ?_ _ | refine zqi ?_ | refine zqh ?_ _)); exact BK346.out) hb); have n3_ := zqd.mk (below_step (by repeat (first | (with_reducible first | exact HB.out | apply zqj | apply zqb | apply zqf | refine zqk ?_ GE346.out) | exact HB.out)) hb); clear HO_0; clear BK346; clear HB; have HO_0 := n0_; have HO353 := n1_; have BK346 := n2_; have HB := n3_; clear n0_ n1_ n2_ n3_; (try clear hb); (try clear hb2); (try clear hk); (try clear hi); (try clear ho0); obtain ⟨Ao_v352, co_v352, eo_v352⟩ := Kd.N_slice HO353.out; subst eo_v352))
    go_loopg [37] kj2 (fun kq v37 w' => ∃ (x37_2 : Int), v37 = .int .i64 x37_2 ∧ zqd (chicanelaw14_NamesOne.l0 kq l0 t351 l0 (l0.length : Int) x37_2 a1_0 a1_1 a1_2 a1_3 a1_4 a1_5 a1_6 a1_7 a1_8 a1_9 a1_10 = some r) ∧ zqd (kq ≤ kj2) ∧ zqd (Kd.V k39 39 w' w.heap.size (fun k_ => (P0_ k_ ∨ w.heap.size ≤ k_) ∧ some k_ ≠ ((.slice Ao_v352 t351.length co_v352) : Value).ownBlock ∧ k_ ≠ gb346) (.slice A0 l0.length c0) l0) ∧ zqd (Kd.N k39 39 w' w.heap.size (fun k_ => (P0_ k_ ∨ w.heap.size ≤ k_) ∧ k_ ≠ gb346) (.slice Ao_v352 t351.length co_v352) t351) ∧ zqd (Kd.V k39 39 w' w.heap.size (fun k_ => (P0_ k_ ∨ w.heap.size ≤ k_) ∧ some k_ ≠ ((.slice Ao_v352 t351.length co_v352) : Value).ownBlock ∧ k_ ≠ gb346) (.slice A0 l0.length c0) l0) ∧ zqd (w'.heap[gb346]? = some (.cells #[.int .i64 a1_0, .int .i64 a1_1, .string a1_2, .string a1_3, .bool a1_4, .string a1_5, .int .i64 a1_6, .bool a1_7, .int .i64 a1_8, .int .i64 a1_9, .int .i64 a1_10] 26 (0, 0))) ∧ zqd (Below w.heap.size w w'))
    case atStart => exact ⟨(0), (by first | rfl | (simp; done) | (simp [*]; done)), H', ⟨Nat.le_refl _⟩, ⟨by (with_reducible repeat (first | apply Kd.V_alloc | apply Kd.V_drewN | apply Kd.V_drew)); exact Kd.V_mono HO_0.out (fun _ hk => ⟨hk.1.1, ⟨hk.2, hk.1.2⟩⟩)⟩, ⟨by (with_reducible repeat (first | apply Kd.N_alloc | apply Kd.N_drewN | apply Kd.N_drew)); exact HO353.out⟩, ⟨by (with_reducible repeat (first | apply Kd.V_alloc | apply Kd.V_drewN | apply Kd.V_drew)); exact Kd.V_mono HO_0.out (fun _ hk => ⟨hk.1.1, ⟨hk.2, hk.1.2⟩⟩)⟩, ⟨by (with_reducible repeat (first | refine zqg ?_ _ | refine zqi ?_ | refine zqh ?_ _)); exact BK346.out⟩, ⟨by repeat (first | (with_reducible first | exact HB.out | apply zqj | apply zqb | apply zqf | refine zqk ?_ GE346.out) | exact HB.out)⟩⟩
    case round =>
     clear H'
     try clear c1
     try clear c2
     try clear p2
     try clear c5
     try clear c6
     try clear c8
     try clear c9
     try clear c10
     try clear c24
     try clear hcz12_0
     try clear hcz12_1
     try clear hcz12_10
     try clear hcz12_2
     try clear hcz12_3
     try clear hcz12_4
     try clear hcz12_5
     try clear hcz12_6
     try clear hcz12_7
     try clear hcz12_8
     try clear hcz12_9
     try clear hcz15_0
     try clear hcz15_1
     try clear hcz15_10
     try clear hcz15_2
     try clear hcz15_3
     try clear hcz15_4
     try clear hcz15_5
     try clear hcz15_6
     try clear hcz15_7
     try clear hcz15_8
     try clear hcz15_9
     try clear hcz17_0
     try clear hcz17_1
     try clear hcz17_10
     try clear hcz17_2
     try clear hcz17_3
     try clear hcz17_4
     try clear hcz17_5
     try clear hcz17_6
     try clear hcz17_7
     try clear hcz17_8
     try clear hcz17_9
     try clear hcz21_0
     try clear hcz21_1
     try clear hcz21_10
     try clear hcz21_2
     try clear hcz21_3
     try clear hcz21_4
     try clear hcz21_5
     try clear hcz21_6
     try clear hcz21_7
     try clear hcz21_8
     try clear hcz21_9
     try clear hcz28_0
     try clear hcz28_1
     try clear hcz28_10
     try clear hcz28_2
     try clear hcz28_3
     try clear hcz28_4
     try clear hcz28_5
     try clear hcz28_6
     try clear hcz28_7
     try clear hcz28_8
     try clear hcz28_9
     try clear hfz12_0
     try clear hfz12_1
     try clear hfz12_10
     try clear hfz12_2
     try clear hfz12_3
     try clear hfz12_4
     try clear hfz12_5
     try clear hfz12_6
     try clear hfz12_7
     try clear hfz12_8
     try clear hfz12_9
     try clear hfz15_0
     try clear hfz15_1
     try clear hfz15_10
     try clear hfz15_2
     try clear hfz15_3
     try clear hfz15_4
     try clear hfz15_5
     try clear hfz15_6
     try clear hfz15_7
     try clear hfz15_8
     try clear hfz15_9
     try clear hfz17_0
     try clear hfz17_1
     try clear hfz17_10
     try clear hfz17_2
     try clear hfz17_3
     try clear hfz17_4
     try clear hfz17_5
     try clear hfz17_6
     try clear hfz17_7
     try clear hfz17_8
     try clear hfz17_9
     try clear hfz21_0
     try clear hfz21_1
     try clear hfz21_10
     try clear hfz21_2
     try clear hfz21_3
     try clear hfz21_4
     try clear hfz21_5
     try clear hfz21_6
     try clear hfz21_7
     try clear hfz21_8
     try clear hfz21_9
     try clear hfz28_0
     try clear hfz28_1
     try clear hfz28_10
     try clear hfz28_2
     try clear hfz28_3
     try clear hfz28_4
     try clear hfz28_5
     try clear hfz28_6
     try clear hfz28_7
     try clear hfz28_8
     try clear hfz28_9
     try clear p2
     obtain ⟨x37_2, rfl, HA, HK2, HO_0, HO_5, HO_35, BK346, HB⟩ := hrel
     cases gk with
     | zero => exact absurd HA.out (by simp [chicanelaw14_NamesOne.l0])
     | succ k2 =>
      have H := HA.out
      clear HA
      simp only [chicanelaw14_NamesOne.l0] at H
      by_cases c30 : x37_2 < (l0.length : Int)
      ·rw [if_pos c30] at H
       have c30b0 : decide (x37_2 < (l0.length : Int)) = true := decide_eq_true c30
       clear c30
       by_cases c31 : 0 ≤ x37_2
       ·rw [if_pos c31] at H
        have c31b0 : decide (0 ≤ x37_2) = true := decide_eq_true c31
        clear c31
        by_cases c32 : x37_2 < (l0.length : Int)
        ·rw [if_pos c32] at H
         have c32b0 : decide (x37_2 < (l0.length : Int)) = true := decide_eq_true c32
         clear c32
         replace H := Option.bind_eq_some_iff.mp H
         obtain ⟨t358, A330, H⟩ := H
         replace H : (if ((zqe l0 x37_2).f0).toList = a1_2.toList then (chicanelaw14_NamesOne.l0 k2 l0 t351 l0 (l0.length : Int) (wrap64 (x37_2 + 1)) a1_0 a1_1 a1_2 a1_3 a1_4 a1_5 a1_6 a1_7 a1_8 a1_9 a1_10) else (if t358 < 0 then (some false) else (if 0 ≤ t358 then (if t358 ≤ (wrap64 (t358 + 1)) then (if (wrap64 (t358 + 1)) ≤ (t351.length : Int) then ((chicaneref14_Same.f k2 ((t351.take ((wrap64 (t358 + 1)) : Int).toNat).drop (t358 : Int).toNat) (([(⟨(zqe l0 x37_2).f0, (zqe l0 x37_2).f1, (zqe l0 x37_2).f2, (zqe l0 x37_2).f3⟩ : S39)] : List (S39)))).bind fun t367 => (if t367 = true then (chicanelaw14_NamesOne.l0 k2 l0 t351 l0 (l0.length : Int) (wrap64 (x37_2 + 1)) a1_0 a1_1 a1_2 a1_3 a1_4 a1_5 a1_6 a1_7 a1_8 a1_9 a1_10) else (some false))) else (none)) else (none)) else (none)))) = some r := H
         have A33 := zqd.mk A330
         clear A330
         by_cases c34 : ((zqe l0 x37_2).f0).toList = a1_2.toList
         ·rw [if_pos c34] at H
          have c34b0 : (((zqe l0 x37_2).f0).toList == a1_2.toList) = true := beq_iff_eq.mpr c34
          have c34b1 : (((zqe l0 x37_2).f0).toList != a1_2.toList) = false := bne_eq_false_iff_eq.mpr c34
          clear c34
          have H' := zqd.mk H
          clear H
          have p356 : 0 ≤ (x37_2 : Int) := of_decide_eq_true (by first | (with_reducible assumption) | assumption)
          have q356 : x37_2 < (l0.length : Int) := of_decide_eq_true (by first | (with_reducible assumption) | assumption)
          obtain ⟨ad356, A356_3, c356_3, e356, hx356_0, hx356_1, hx356_2, hx356_3, hl356_3, hi356_3⟩ := at_T39 (Kd.V_reads' HO_35.out).2.2 x37_2 p356 q356
          cases e356
          obtain ⟨ce356, hce356, hMe356, hcc356⟩ := Kd.V_get HO_35.out z39 x37_2 p356 (by first | exact q356 | exact of_decide_eq_true (by first | (with_reducible assumption) | assumption) | (have e_ := (Kd.V_reads' HO_35.out).1; omega))
          obtain ⟨ua356_3, uc356_3, rfl, ul356_3, ge356_3⟩ := k39_openF hMe356
          have hv356_3 := hcc356 3 _ rfl
          rw [add_field _ _ 3 (by omega)] at hv356_3
          replace hv356_3 := Option.some.inj (hv356_3.symm.trans hx356_3)
          injection hv356_3 with hva_ hvn_ hvc_
          rw [hva_] at ge356_3
          rw [hvc_] at ul356_3
          have HL356_3 := zqd.mk (show Kd.V k24 24 _ w.heap.size _ _ ((zqe l0 x37_2).f3) from Kd.V_mk ul356_3 ge356_3)
          clear hva_ hvn_ hvc_ ge356_3 ul356_3
          clear hcc356 hce356
          have HR356_3 := zqd.mk hi356_3
          have HC356_3 := zqd.mk hl356_3
          clear hi356_3 hl356_3
          replace p356 := eq_true p356
          replace q356 := eq_true q356
          try go_wp2_with (first | ((with_reducible refine gate_dst (N := 8) rfl ?_); (try (refine gate_guard (by rfl) ?_; dsimp only)); refine box_event ?hg (N := 8) ?hd (cs := #[.string (⟨#[]⟩ : ByteArray), .bool false, .int .i64 0, .slice none 0 0]) (t := 39) ?hr ?_; (case hd => rfl); (case hg => rfl); (case hr => first | (go_simp; done) | (go_simp; rfl)); intro gb357 hg w35 hbox hb; have n0_ := zqd.mk (Kd.V_below (Kd.V_elderB (by (with_reducible repeat (first | apply Kd.V_alloc | apply Kd.V_drewN | apply Kd.V_drew)); exact HO_0.out) gb357 (Nat.le_of_eq hg.symm)) hb); have n1_ := zqd.mk (Kd.N_below (Kd.N_elderB (by (with_reducible repeat (first | apply Kd.N_alloc | apply Kd.N_drewN | apply Kd.N_drew)); exact HO_5.out) gb357 (Nat.le_of_eq hg.symm)) hb); have n2_ := zqd.mk (Kd.V_below (Kd.V_elderB (by (with_reducible repeat (first | apply Kd.V_alloc | apply Kd.V_drewN | apply Kd.V_drew)); exact HO_35.out) gb357 (Nat.le_of_eq hg.symm)) hb); have n3_ := zqd.mk (Kd.V_below (Kd.V_elderB (by (with_reducible repeat (first | apply Kd.V_alloc | apply Kd.V_drewN | apply Kd.V_drew)); exact HL356_3.out) gb357 (Nat.le_of_eq hg.symm)) hb); have n4_ := zqd.mk (blk_below (g := gb346) (o := .cells #[.int .i64 a1_0, .int .i64 a1_1, .string a1_2, .string a1_3, .bool a1_4, .string a1_5, .int .i64 a1_6, .bool a1_7, .int .i64 a1_8, .int .i64 a1_9, .int .i64 a1_10] 26 (0, 0)) (by (with_reducible repeat (first | refine zqg ?_ _ | refine zqi ?_ | refine zqh ?_ _)); exact BK346.out) hb); have n5_ := zqd.mk (Kd.C_below (by repeat (first | (with_reducible exact HR356_3.out) | (with_reducible refine Kd.C_alloc ?_ _) | (with_reducible refine Kd.C_drewN ?_ _) | (with_reducible refine Kd.C_drew ?_) | exact HR356_3.out)) hb); have n6_ := zqd.mk (below_step (by repeat (first | (with_reducible first | exact HB.out | apply zqj | apply zqb | apply zqf | refine zqk ?_ GE346.out) | exact HB.out)) hb); have n7_ := zqd.mk (hbox); have n8_ := zqd.mk ((by rw [hg]; exact (below_size (by repeat (first | (with_reducible first | exact HB.out | apply zqj | apply zqb | apply zqf | refine zqk ?_ GE346.out) | exact HB.out))) : w.heap.size ≤ gb357)); have n9_ := zqd.mk ((by rw [hg]; exact (below_size (by repeat (first | (with_reducible first | exact HB.out | apply zqj | apply zqb | apply zqf | refine zqk ?_ GE346.out) | exact HB.out))) : w.heap.size ≤ gb357)); have n10_ := zqd.mk ((by rw [hg]; exact Nat.ne_of_lt (blk_lt (g := gb346) (o := .cells #[.int .i64 a1_0, .int .i64 a1_1, .string a1_2, .string a1_3, .bool a1_4, .string a1_5, .int .i64 a1_6, .bool a1_7, .int .i64 a1_8, .int .i64 a1_9, .int .i64 a1_10] 26 (0, 0)) (by (with_reducible repeat (first | refine zqg ?_ _ | refine zqi ?_ | refine zqh ?_ _)); exact BK346.out)) : gb346 ≠ gb357)); have n11_ := zqd.mk ((by rw [hg]; exact Nat.ne_of_gt (blk_lt (g := gb346) (o := .cells #[.int .i64 a1_0, .int .i64 a1_1, .string a1_2, .string a1_3, .bool a1_4, .string a1_5, .int .i64 a1_6, .bool a1_7, .int .i64 a1_8, .int .i64 a1_9, .int .i64 a1_10] 26 (0, 0)) (by (with_reducible repeat (first | refine zqg ?_ _ | refine zqi ?_ | refine zqh ?_ _)); exact BK346.out)) : gb357 ≠ gb346)); clear HO_0; clear HO_5; clear HO_35; clear HL356_3; clear BK346; clear HR356_3; clear HB; have HO_0 := n0_; have HO_5 := n1_; have HO_35 := n2_; have HL356_3 := n3_; have BK346 := n4_; have HR356_3 := n5_; have HB := n6_; have BK357 := n7_; have GW357 := n8_; have GE357 := n9_; have NB346_357 := n10_; have NB357_346 := n11_; clear n0_ n1_ n2_ n3_ n4_ n5_ n6_ n7_ n8_ n9_ n10_ n11_; clear hb hbox hg; have hnb36 := NB357_346.out; have hnc36 := NB346_357.out; have hcz37_0 : w35.cell? ⟨gb357, 0, none⟩ = some (.string (⟨#[]⟩ : ByteArray)) := (zqc BK357.out 0).trans rfl; have hcz37_1 : w35.cell? ⟨gb357, 1, none⟩ = some (.bool false) := (zqc BK357.out 1).trans rfl; have hcz37_2 : w35.cell? ⟨gb357, 2, none⟩ = some (.int .i64 0) := (zqc BK357.out 2).trans rfl; have hcz37_3 : w35.cell? ⟨gb357, 3, none⟩ = some (.slice none 0 0) := (zqc BK357.out 3).trans rfl; have hfz37_0 := zqa BK357.out 0; have hfz37_1 := zqa BK357.out 1; have hfz37_2 := zqa BK357.out 2; have hfz37_3 := zqa BK357.out 3; skip) | ((with_reducible refine gate_callee (f := 14) rfl ?_); refine goesL_ (some 44) rfl rfl Tryz.func14 (by kernel_rfl) rfl #[.slice Ao_v352 t351.length co_v352, .string ((zqe l0 x37_2).f0)] rfl (by (try simp only [List.map_toArray, List.map_cons, List.map_nil]); first | done | rfl | (simp only [List.length_drop, List.length_take]; rfl)) ?_; (with_reducible refine (chicaneref14_Find.calls k2 _ _ t351 ((zqe l0 x37_2).f0) t358 _ ?side1 ?side2 A33.out).mono ?_); (case side1 => refine (Kd.N_reads' (e := 39) (base := w.heap.size) (ok := fun k_ => (((P0_ k_ ∨ w.heap.size ≤ k_) ∧ k_ ≠ gb346) ∧ k_ ≠ gb357)) (n := t351.length) (c := co_v352) ?_).2.2; exact (by (with_reducible repeat (first | apply Kd.N_alloc | apply Kd.N_drewN | apply Kd.N_drew)); exact (Kd.N_mono (Kd.N_far (p := ⟨gb357, 3, none⟩) (Kd.N_far (p := ⟨gb357, 2, none⟩) (Kd.N_far (p := ⟨gb357, 1, none⟩) (Kd.N_far (p := ⟨gb357, 0, none⟩) (Kd.N_mono HO_5.out (fun k_ hk => (⟨hk, hk.2⟩ : _ ∧ k_ ≠ gb357))) (fun _ hk => hk.2) (.string ((zqe l0 x37_2).f0))) (fun _ hk => hk.2) (.bool ((zqe l0 x37_2).f1))) (fun _ hk => hk.2) (.int .i64 ((zqe l0 x37_2).f2))) (fun _ hk => hk.2) (.slice A356_3 ((zqe l0 x37_2).f3).length c356_3)) (fun _ h_ => h_.1)))); (case side2 => exact (Kd.N_reads' HO_5.out).2.1); rintro e w' ⟨rfl, ⟨nd, rfl⟩⟩; refine ⟨_, rfl, ?_⟩))
          have n0_ : zqd (Kd.V k39 39 ((((w35.setCell ⟨gb357, 0, none⟩ (.string ((zqe l0 x37_2).f0))).setCell ⟨gb357, 1, none⟩ (.bool ((zqe l0 x37_2).f1))).setCell ⟨gb357, 2, none⟩ (.int .i64 ((zqe l0 x37_2).f2))).setCell ⟨gb357, 3, none⟩ (.slice A356_3 ((zqe l0 x37_2).f3).length c356_3)) w.heap.size (fun k_ => (P0_ k_ ∨ w.heap.size ≤ k_) ∧ some k_ ≠ (.slice Ao_v352 t351.length co_v352 : Value).ownBlock ∧ k_ ≠ gb346 ∧ k_ ≠ gb357) (.slice (some ad356) l0.length c0) l0) := ⟨by (with_reducible repeat (first | apply Kd.V_alloc | apply Kd.V_drewN | apply Kd.V_drew)); exact Kd.V_mono (Kd.V_far (p := ⟨gb357, 3, none⟩) (Kd.V_far (p := ⟨gb357, 2, none⟩) (Kd.V_far (p := ⟨gb357, 1, none⟩) (Kd.V_far (p := ⟨gb357, 0, none⟩) (Kd.V_mono HO_0.out (fun k_ hk => (⟨hk, hk.2⟩ : _ ∧ k_ ≠ gb357))) (fun _ hk => hk.2) (.string ((zqe l0 x37_2).f0))) (fun _ hk => hk.2) (.bool ((zqe l0 x37_2).f1))) (fun _ hk => hk.2) (.int .i64 ((zqe l0 x37_2).f2))) (fun _ hk => hk.2) (.slice A356_3 ((zqe l0 x37_2).f3).length c356_3)) (fun _ hk => ⟨hk.1.1.1, ⟨hk.1.1.2.1, ⟨hk.1.1.2.2, hk.1.2⟩⟩⟩)⟩
          have n1_ : zqd (Kd.N k39 39 ((((w35.setCell ⟨gb357, 0, none⟩ (.string ((zqe l0 x37_2).f0))).setCell ⟨gb357, 1, none⟩ (.bool ((zqe l0 x37_2).f1))).setCell ⟨gb357, 2, none⟩ (.int .i64 ((zqe l0 x37_2).f2))).setCell ⟨gb357, 3, none⟩ (.slice A356_3 ((zqe l0 x37_2).f3).length c356_3)) w.heap.size (fun k_ => (P0_ k_ ∨ w.heap.size ≤ k_) ∧ k_ ≠ gb346 ∧ k_ ≠ gb357) (.slice Ao_v352 t351.length co_v352) t351) := ⟨by (with_reducible repeat (first | apply Kd.N_alloc | apply Kd.N_drewN | apply Kd.N_drew)); exact Kd.N_mono (Kd.N_far (p := ⟨gb357, 3, none⟩) (Kd.N_far (p := ⟨gb357, 2, none⟩) (Kd.N_far (p := ⟨gb357, 1, none⟩) (Kd.N_far (p := ⟨gb357, 0, none⟩) (Kd.N_mono HO_5.out (fun k_ hk => (⟨hk, hk.2⟩ : _ ∧ k_ ≠ gb357))) (fun _ hk => hk.2) (.string ((zqe l0 x37_2).f0))) (fun _ hk => hk.2) (.bool ((zqe l0 x37_2).f1))) (fun _ hk => hk.2) (.int .i64 ((zqe l0 x37_2).f2))) (fun _ hk => hk.2) (.slice A356_3 ((zqe l0 x37_2).f3).length c356_3)) (fun _ hk => ⟨hk.1.1.1, ⟨hk.1.1.2, hk.1.2⟩⟩)⟩
          have n2_ : zqd (Kd.V k39 39 ((((w35.setCell ⟨gb357, 0, none⟩ (.string ((zqe l0 x37_2).f0))).setCell ⟨gb357, 1, none⟩ (.bool ((zqe l0 x37_2).f1))).setCell ⟨gb357, 2, none⟩ (.int .i64 ((zqe l0 x37_2).f2))).setCell ⟨gb357, 3, none⟩ (.slice A356_3 ((zqe l0 x37_2).f3).length c356_3)) w.heap.size (fun k_ => (P0_ k_ ∨ w.heap.size ≤ k_) ∧ some k_ ≠ (.slice Ao_v352 t351.length co_v352 : Value).ownBlock ∧ k_ ≠ gb346 ∧ k_ ≠ gb357) (.slice (some ad356) l0.length c0) l0) := ⟨by (with_reducible repeat (first | apply Kd.V_alloc | apply Kd.V_drewN | apply Kd.V_drew)); exact Kd.V_mono (Kd.V_far (p := ⟨gb357, 3, none⟩) (Kd.V_far (p := ⟨gb357, 2, none⟩) (Kd.V_far (p := ⟨gb357, 1, none⟩) (Kd.V_far (p := ⟨gb357, 0, none⟩) (Kd.V_mono HO_35.out (fun k_ hk => (⟨hk, hk.2⟩ : _ ∧ k_ ≠ gb357))) (fun _ hk => hk.2) (.string ((zqe l0 x37_2).f0))) (fun _ hk => hk.2) (.bool ((zqe l0 x37_2).f1))) (fun _ hk => hk.2) (.int .i64 ((zqe l0 x37_2).f2))) (fun _ hk => hk.2) (.slice A356_3 ((zqe l0 x37_2).f3).length c356_3)) (fun _ hk => ⟨hk.1.1.1, ⟨hk.1.1.2.1, ⟨hk.1.1.2.2, hk.1.2⟩⟩⟩)⟩
          have n3_ : zqd (Kd.V k24 24 ((((w35.setCell ⟨gb357, 0, none⟩ (.string ((zqe l0 x37_2).f0))).setCell ⟨gb357, 1, none⟩ (.bool ((zqe l0 x37_2).f1))).setCell ⟨gb357, 2, none⟩ (.int .i64 ((zqe l0 x37_2).f2))).setCell ⟨gb357, 3, none⟩ (.slice A356_3 ((zqe l0 x37_2).f3).length c356_3)) w.heap.size (fun k_ => (P0_ k_ ∨ w.heap.size ≤ k_) ∧ some k_ ≠ (.slice Ao_v352 t351.length co_v352 : Value).ownBlock ∧ k_ ≠ gb346 ∧ k_ ≠ gb357) (.slice A356_3 ((zqe l0 x37_2).f3).length c356_3) ((zqe l0 x37_2).f3)) := ⟨by (with_reducible repeat (first | apply Kd.V_alloc | apply Kd.V_drewN | apply Kd.V_drew)); exact Kd.V_mono (Kd.V_far (p := ⟨gb357, 3, none⟩) (Kd.V_far (p := ⟨gb357, 2, none⟩) (Kd.V_far (p := ⟨gb357, 1, none⟩) (Kd.V_far (p := ⟨gb357, 0, none⟩) (Kd.V_mono HL356_3.out (fun k_ hk => (⟨hk, hk.2⟩ : _ ∧ k_ ≠ gb357))) (fun _ hk => hk.2) (.string ((zqe l0 x37_2).f0))) (fun _ hk => hk.2) (.bool ((zqe l0 x37_2).f1))) (fun _ hk => hk.2) (.int .i64 ((zqe l0 x37_2).f2))) (fun _ hk => hk.2) (.slice A356_3 ((zqe l0 x37_2).f3).length c356_3)) (fun _ hk => ⟨hk.1.1.1, ⟨hk.1.1.2.1, ⟨hk.1.1.2.2, hk.1.2⟩⟩⟩)⟩
          have n4_ : zqd (((((w35.setCell ⟨gb357, 0, none⟩ (.string ((zqe l0 x37_2).f0))).setCell ⟨gb357, 1, none⟩ (.bool ((zqe l0 x37_2).f1))).setCell ⟨gb357, 2, none⟩ (.int .i64 ((zqe l0 x37_2).f2))).setCell ⟨gb357, 3, none⟩ (.slice A356_3 ((zqe l0 x37_2).f3).length c356_3)).heap[gb346]? = some (.cells #[.int .i64 a1_0, .int .i64 a1_1, .string a1_2, .string a1_3, .bool a1_4, .string a1_5, .int .i64 a1_6, .bool a1_7, .int .i64 a1_8, .int .i64 a1_9, .int .i64 a1_10] 26 (0, 0))) := ⟨by (with_reducible repeat (first | refine zqg ?_ _ | refine zqi ?_ | refine zqh ?_ _)); refine blk_far ?_ NB346_357.out _; (with_reducible repeat (first | refine zqg ?_ _ | refine zqi ?_ | refine zqh ?_ _)); refine blk_far ?_ NB346_357.out _; (with_reducible repeat (first | refine zqg ?_ _ | refine zqi ?_ | refine zqh ?_ _)); refine blk_far ?_ NB346_357.out _; (with_reducible repeat (first | refine zqg ?_ _ | refine zqi ?_ | refine zqh ?_ _)); refine blk_far ?_ NB346_357.out _; (with_reducible repeat (first | refine zqg ?_ _ | refine zqi ?_ | refine zqh ?_ _)); exact BK346.out⟩
          have n5_ : zqd (((((w35.setCell ⟨gb357, 0, none⟩ (.string ((zqe l0 x37_2).f0))).setCell ⟨gb357, 1, none⟩ (.bool ((zqe l0 x37_2).f1))).setCell ⟨gb357, 2, none⟩ (.int .i64 ((zqe l0 x37_2).f2))).setCell ⟨gb357, 3, none⟩ (.slice A356_3 ((zqe l0 x37_2).f3).length c356_3)).heap[gb357]? = some (.cells #[.string ((zqe l0 x37_2).f0), .bool ((zqe l0 x37_2).f1), .int .i64 ((zqe l0 x37_2).f2), .slice A356_3 ((zqe l0 x37_2).f3).length c356_3] 39 (0, 0))) := ⟨by (with_reducible repeat (first | refine zqg ?_ _ | refine zqi ?_ | refine zqh ?_ _)); refine blk_put (cs := #[.string ((zqe l0 x37_2).f0), .bool ((zqe l0 x37_2).f1), .int .i64 ((zqe l0 x37_2).f2), .slice none 0 0]) ?_ 3 _ rfl; (with_reducible repeat (first | refine zqg ?_ _ | refine zqi ?_ | refine zqh ?_ _)); refine blk_put (cs := #[.string ((zqe l0 x37_2).f0), .bool ((zqe l0 x37_2).f1), .int .i64 0, .slice none 0 0]) ?_ 2 _ rfl; (with_reducible repeat (first | refine zqg ?_ _ | refine zqi ?_ | refine zqh ?_ _)); refine blk_put (cs := #[.string ((zqe l0 x37_2).f0), .bool false, .int .i64 0, .slice none 0 0]) ?_ 1 _ rfl; (with_reducible repeat (first | refine zqg ?_ _ | refine zqi ?_ | refine zqh ?_ _)); refine blk_put (cs := #[.string (⟨#[]⟩ : ByteArray), .bool false, .int .i64 0, .slice none 0 0]) ?_ 0 _ rfl; (with_reducible repeat (first | refine zqg ?_ _ | refine zqi ?_ | refine zqh ?_ _)); exact BK357.out⟩
          have n6_ : zqd (Below w.heap.size w ((((w35.setCell ⟨gb357, 0, none⟩ (.string ((zqe l0 x37_2).f0))).setCell ⟨gb357, 1, none⟩ (.bool ((zqe l0 x37_2).f1))).setCell ⟨gb357, 2, none⟩ (.int .i64 ((zqe l0 x37_2).f2))).setCell ⟨gb357, 3, none⟩ (.slice A356_3 ((zqe l0 x37_2).f3).length c356_3))) := ⟨by repeat (first | (with_reducible first | exact HB.out | apply zqj | apply zqb | apply zqf | refine zqk ?_ GE346.out | refine zqk ?_ GE357.out) | exact HB.out)⟩
          (try clear HO_0)
          (try clear HO_5)
          (try clear HO_35)
          (try clear HL356_3)
          (try clear BK346)
          (try clear BK357)
          (try clear HB)
          generalize ((((w35.setCell ⟨gb357, 0, none⟩ (.string ((zqe l0 x37_2).f0))).setCell ⟨gb357, 1, none⟩ (.bool ((zqe l0 x37_2).f1))).setCell ⟨gb357, 2, none⟩ (.int .i64 ((zqe l0 x37_2).f2))).setCell ⟨gb357, 3, none⟩ (.slice A356_3 ((zqe l0 x37_2).f3).length c356_3)) = w39 at n0_ n1_ n2_ n3_ n4_ n5_ n6_ ⊢
          have HO_0 := n0_
          have HO_5 := n1_
          have HO_35 := n2_
          have HL356_3 := n3_
          have BK346 := n4_
          have BK357 := n5_
          have HB := n6_
          clear n0_ n1_ n2_ n3_ n4_ n5_ n6_
          (try (rw [drewN_self w39]; generalize hq_ : World.drewN w39 _ = w39; have n0_ : zqd (Kd.V k24 24 w39 w.heap.size (fun k_ => (P0_ k_ ∨ w.heap.size ≤ k_) ∧ some k_ ≠ (.slice Ao_v352 t351.length co_v352 : Value).ownBlock ∧ k_ ≠ gb346 ∧ k_ ≠ gb357) (.slice A356_3 ((zqe l0 x37_2).f3).length c356_3) ((zqe l0 x37_2).f3)) := ⟨by rw [← hq_]; exact (by (with_reducible repeat (first | apply Kd.V_alloc | apply Kd.V_drewN | apply Kd.V_drew)); exact HL356_3.out)⟩; have n1_ : zqd (Kd.V k39 39 w39 w.heap.size (fun k_ => (P0_ k_ ∨ w.heap.size ≤ k_) ∧ some k_ ≠ (.slice Ao_v352 t351.length co_v352 : Value).ownBlock ∧ k_ ≠ gb346 ∧ k_ ≠ gb357) (.slice (some ad356) l0.length c0) l0) := ⟨by rw [← hq_]; exact (by (with_reducible repeat (first | apply Kd.V_alloc | apply Kd.V_drewN | apply Kd.V_drew)); exact HO_0.out)⟩; have n2_ : zqd (Kd.V k39 39 w39 w.heap.size (fun k_ => (P0_ k_ ∨ w.heap.size ≤ k_) ∧ some k_ ≠ (.slice Ao_v352 t351.length co_v352 : Value).ownBlock ∧ k_ ≠ gb346 ∧ k_ ≠ gb357) (.slice (some ad356) l0.length c0) l0) := ⟨by rw [← hq_]; exact (by (with_reducible repeat (first | apply Kd.V_alloc | apply Kd.V_drewN | apply Kd.V_drew)); exact HO_35.out)⟩; have n3_ : zqd (Kd.N k39 39 w39 w.heap.size (fun k_ => (P0_ k_ ∨ w.heap.size ≤ k_) ∧ k_ ≠ gb346 ∧ k_ ≠ gb357) (.slice Ao_v352 t351.length co_v352) t351) := ⟨by rw [← hq_]; exact (by (with_reducible repeat (first | apply Kd.N_alloc | apply Kd.N_drewN | apply Kd.N_drew)); exact HO_5.out)⟩; have n4_ : zqd (w39.heap[gb346]? = some (.cells #[.int .i64 a1_0, .int .i64 a1_1, .string a1_2, .string a1_3, .bool a1_4, .string a1_5, .int .i64 a1_6, .bool a1_7, .int .i64 a1_8, .int .i64 a1_9, .int .i64 a1_10] 26 (0, 0))) := ⟨by rw [← hq_]; exact (by (with_reducible repeat (first | refine zqg ?_ _ | refine zqi ?_ | refine zqh ?_ _)); exact BK346.out)⟩; have n5_ : zqd (w39.heap[gb357]? = some (.cells #[.string ((zqe l0 x37_2).f0), .bool ((zqe l0 x37_2).f1), .int .i64 ((zqe l0 x37_2).f2), .slice A356_3 ((zqe l0 x37_2).f3).length c356_3] 39 (0, 0))) := ⟨by rw [← hq_]; exact (by (with_reducible repeat (first | refine zqg ?_ _ | refine zqi ?_ | refine zqh ?_ _)); exact BK357.out)⟩; have n6_ : zqd (Below w.heap.size w w39) := ⟨by rw [← hq_]; exact (by repeat (first | (with_reducible first | exact HB.out | apply zqj | apply zqb | apply zqf | refine zqk ?_ GE346.out | refine zqk ?_ GE357.out) | exact HB.out))⟩; clear HL356_3 HO_0 HO_35 HO_5 BK346 BK357 HB hq_; have HL356_3 := n0_; have HO_0 := n1_; have HO_35 := n2_; have HO_5 := n3_; have BK346 := n4_; have BK357 := n5_; have HB := n6_; clear n0_ n1_ n2_ n3_ n4_ n5_ n6_))
          have n0_ := zqd.mk (Kd.V_drew HO_0.out)
          have n1_ := zqd.mk (Kd.N_drew HO_5.out)
          have n2_ := zqd.mk (Kd.V_drew HO_35.out)
          have n3_ := zqd.mk (Kd.V_drew HL356_3.out)
          have n4_ := zqd.mk (zqi BK346.out)
          have n5_ := zqd.mk (zqi BK357.out)
          have n6_ := zqd.mk (zqf HB.out)
          clear HO_0
          clear HO_5
          clear HO_35
          clear HL356_3
          clear BK346
          clear BK357
          clear HB
          have HO_0 := n0_
          have HO_5 := n1_
          have HO_35 := n2_
          have HL356_3 := n3_
          have BK346 := n4_
          have BK357 := n5_
          have HB := n6_
          clear n0_ n1_ n2_ n3_ n4_ n5_ n6_
          refine start_ (n := 20) (S := fun w' => w'.cell? ⟨gb357, 0, none⟩ = some (.string ((zqe l0 x37_2).f0)) ∧ w'.cell? ⟨gb357, 1, none⟩ = some (.bool ((zqe l0 x37_2).f1)) ∧ w'.cell? ⟨gb357, 2, none⟩ = some (.int .i64 ((zqe l0 x37_2).f2)) ∧ w'.cell? ⟨gb357, 3, none⟩ = some (.slice A356_3 ((zqe l0 x37_2).f3).length c356_3) ∧ w'.cell? ⟨gb346, 0, none⟩ = some (.int .i64 a1_0) ∧ w'.cell? ⟨gb346, 1, none⟩ = some (.int .i64 a1_1) ∧ w'.cell? ⟨gb346, 2, none⟩ = some (.string a1_2) ∧ w'.cell? ⟨gb346, 3, none⟩ = some (.string a1_3) ∧ w'.cell? ⟨gb346, 4, none⟩ = some (.bool a1_4) ∧ w'.cell? ⟨gb346, 5, none⟩ = some (.string a1_5) ∧ w'.cell? ⟨gb346, 6, none⟩ = some (.int .i64 a1_6) ∧ w'.cell? ⟨gb346, 7, none⟩ = some (.bool a1_7) ∧ w'.cell? ⟨gb346, 8, none⟩ = some (.int .i64 a1_8) ∧ w'.cell? ⟨gb346, 9, none⟩ = some (.int .i64 a1_9) ∧ w'.cell? ⟨gb346, 10, none⟩ = some (.int .i64 a1_10)) (ds := []) #[false, false, false, false, false, false, false, false, false, false, false, false, false, false, false, false, false, false, false, false] (by kernel_rfl) rfl rfl ⟨(zqc BK357.out 0).trans rfl, (zqc BK357.out 1).trans rfl, (zqc BK357.out 2).trans rfl, (zqc BK357.out 3).trans rfl, (zqc BK346.out 0).trans rfl, (zqc BK346.out 1).trans rfl, (zqc BK346.out 2).trans rfl, (zqc BK346.out 3).trans rfl, (zqc BK346.out 4).trans rfl, (zqc BK346.out 5).trans rfl, (zqc BK346.out 6).trans rfl, (zqc BK346.out 7).trans rfl, (zqc BK346.out 8).trans rfl, (zqc BK346.out 9).trans rfl, (zqc BK346.out 10).trans rfl⟩ (fun hHeld => ?_); refine with_tabW chicanelaw14_NamesOne.tab8 chicanelaw14_NamesOne.bits8 (fun HT_ HW_ => ?_)
          generalize w39.drew = w40 at HO_0 HO_5 HO_35 HL356_3 BK346 BK357 HB hHeld ⊢
          refine pure_ (i := 0) (N := some 45) (v := ?_) (a' := ?_) #[true, false, false, false, false, false, false, false, false, false, false, false, false, false, false, false, false, false, false, false] rfl rfl (any_of HT_.out (by kernel_rfl)) (fun _ _ _ h => h) (Or.inl ⟨by rfl, ?_⟩) ?_ ?_
          rotate_left
          ·intro w'
           go_simp
           with_reducible rfl
          rotate_left
          ·simp only [Act.put, List.setIfInBounds_toArray, List.set_cons_zero, List.set_cons_succ, i64_w, i32_w]
           rfl
          refine pure_ (i := 2) (N := some 47) (v := ?_) (a' := ?_) #[true, false, true, false, false, false, false, false, false, false, false, false, false, false, false, false, false, false, false, false] rfl rfl (any_of HT_.out (by kernel_rfl)) (fun _ _ _ h => h) (Or.inl ⟨by rfl, ?_⟩) ?_ ?_
          rotate_left
          ·intro w'
           go_simp
           with_reducible rfl
          rotate_left
          ·simp only [Act.put, List.setIfInBounds_toArray, List.set_cons_zero, List.set_cons_succ, i64_w, i32_w]
           rfl
          refine take_ (i := 1) (N := some 46) (v := ?_) (a' := ?_) #[true, true, true, false, false, false, false, false, false, false, false, false, false, false, false, false, false, false, false, false] rfl rfl (take_ofW HT_.out HW_.out (by kernel_rfl)) (fun _ _ _ h => h) (Or.inl ⟨by rfl, ?_⟩) hHeld ?_ ?_
          rotate_left
          ·rintro w' ⟨s0, s1, s2, s3, s4, s5, s6, s7, s8, s9, s10, s11, s12, s13, s14⟩
           go_simp
           with_reducible rfl
          rotate_left
          ·simp only [Act.put, List.setIfInBounds_toArray, List.set_cons_zero, List.set_cons_succ, i64_w, i32_w]
           rfl
          refine take_ (i := 3) (N := some 48) (v := ?_) (a' := ?_) #[true, true, true, true, false, false, false, false, false, false, false, false, false, false, false, false, false, false, false, false] rfl rfl (take_ofW HT_.out HW_.out (by kernel_rfl)) (fun _ _ _ h => h) (Or.inl ⟨by rfl, ?_⟩) hHeld ?_ ?_
          rotate_left
          ·rintro w' ⟨s0, s1, s2, s3, s4, s5, s6, s7, s8, s9, s10, s11, s12, s13, s14⟩
           go_simp
           with_reducible rfl
          rotate_left
          ·simp only [Act.put, List.setIfInBounds_toArray, List.set_cons_zero, List.set_cons_succ, i64_w, i32_w]
           rfl
          refine pure_ (i := 4) (N := some 49) (v := ?_) (a' := ?_) #[true, true, true, true, true, false, false, false, false, false, false, false, false, false, false, false, false, false, false, false] rfl rfl (any_of HT_.out (by kernel_rfl)) (fun _ _ _ h => h) (Or.inl ⟨by rfl, ?_⟩) ?_ ?_
          rotate_left
          ·intro w'
           go_simp
           with_reducible rfl
          rotate_left
          ·simp only [Act.put, List.setIfInBounds_toArray, List.set_cons_zero, List.set_cons_succ, i64_w, i32_w]
           rfl
          refine pure_ (i := 5) (N := some 50) (v := ?_) (a' := ?_) #[true, true, true, true, true, true, false, false, false, false, false, false, false, false, false, false, false, false, false, false] rfl rfl (any_of HT_.out (by kernel_rfl)) (fun _ _ _ h => h) (Or.inl ⟨by rfl, ?_⟩) ?_ ?_
          rotate_left
          ·intro w'
           go_simp
           with_reducible rfl
          rotate_left
          ·simp only [Act.put, List.setIfInBounds_toArray, List.set_cons_zero, List.set_cons_succ, i64_w, i32_w]
           rfl
          refine pure_ (i := 6) (N := some 51) (v := undef) (a' := ?_) #[true, true, true, true, true, true, true, false, false, false, false, false, false, false, false, false, false, false, false, false] rfl rfl (any_of HT_.out (by kernel_rfl)) (fun _ _ _ h => h) (Or.inr ⟨by rfl, rfl⟩) ?_ ?_
          rotate_left
          ·simp only [Act.put, List.setIfInBounds_toArray, List.set_cons_zero, List.set_cons_succ, i64_w, i32_w]
           rfl
          refine pure_ (i := 7) (N := some 52) (v := undef) (a' := ?_) #[true, true, true, true, true, true, true, true, false, false, false, false, false, false, false, false, false, false, false, false] rfl rfl (any_of HT_.out (by kernel_rfl)) (fun _ _ _ h => h) (Or.inr ⟨by rfl, rfl⟩) ?_ ?_
          rotate_left
          ·simp only [Act.put, List.setIfInBounds_toArray, List.set_cons_zero, List.set_cons_succ, i64_w, i32_w]
           rfl
          refine pure_ (i := 8) (N := some 53) (v := undef) (a' := ?_) #[true, true, true, true, true, true, true, true, true, false, false, false, false, false, false, false, false, false, false, false] rfl rfl (any_of HT_.out (by kernel_rfl)) (fun _ _ _ h => h) (Or.inr ⟨by rfl, rfl⟩) ?_ ?_
          rotate_left
          ·simp only [Act.put, List.setIfInBounds_toArray, List.set_cons_zero, List.set_cons_succ, i64_w, i32_w]
           rfl
          refine pure_ (i := 9) (N := some 54) (v := undef) (a' := ?_) #[true, true, true, true, true, true, true, true, true, true, false, false, false, false, false, false, false, false, false, false] rfl rfl (any_of HT_.out (by kernel_rfl)) (fun _ _ _ h => h) (Or.inr ⟨by rfl, rfl⟩) ?_ ?_
          rotate_left
          ·simp only [Act.put, List.setIfInBounds_toArray, List.set_cons_zero, List.set_cons_succ, i64_w, i32_w]
           rfl
          refine pure_ (i := 10) (N := some 55) (v := undef) (a' := ?_) #[true, true, true, true, true, true, true, true, true, true, true, false, false, false, false, false, false, false, false, false] rfl rfl (any_of HT_.out (by kernel_rfl)) (fun _ _ _ h => h) (Or.inr ⟨by rfl, rfl⟩) ?_ ?_
          rotate_left
          ·simp only [Act.put, List.setIfInBounds_toArray, List.set_cons_zero, List.set_cons_succ, i64_w, i32_w]
           rfl
          refine pure_ (i := 11) (N := some 56) (v := undef) (a' := ?_) #[true, true, true, true, true, true, true, true, true, true, true, true, false, false, false, false, false, false, false, false] rfl rfl (any_of HT_.out (by kernel_rfl)) (fun _ _ _ h => h) (Or.inr ⟨by rfl, rfl⟩) ?_ ?_
          rotate_left
          ·simp only [Act.put, List.setIfInBounds_toArray, List.set_cons_zero, List.set_cons_succ, i64_w, i32_w]
           rfl
          refine pure_ (i := 12) (N := some 57) (v := undef) (a' := ?_) #[true, true, true, true, true, true, true, true, true, true, true, true, true, false, false, false, false, false, false, false] rfl rfl (any_of HT_.out (by kernel_rfl)) (fun _ _ _ h => h) (Or.inr ⟨by rfl, rfl⟩) ?_ ?_
          rotate_left
          ·simp only [Act.put, List.setIfInBounds_toArray, List.set_cons_zero, List.set_cons_succ, i64_w, i32_w]
           rfl
          refine pure_ (i := 13) (N := some 58) (v := undef) (a' := ?_) #[true, true, true, true, true, true, true, true, true, true, true, true, true, true, false, false, false, false, false, false] rfl rfl (any_of HT_.out (by kernel_rfl)) (fun _ _ _ h => h) (Or.inr ⟨by rfl, rfl⟩) ?_ ?_
          rotate_left
          ·simp only [Act.put, List.setIfInBounds_toArray, List.set_cons_zero, List.set_cons_succ, i64_w, i32_w]
           rfl
          refine pure_ (i := 14) (N := some 59) (v := undef) (a' := ?_) #[true, true, true, true, true, true, true, true, true, true, true, true, true, true, true, false, false, false, false, false] rfl rfl (any_of HT_.out (by kernel_rfl)) (fun _ _ _ h => h) (Or.inr ⟨by rfl, rfl⟩) ?_ ?_
          rotate_left
          ·simp only [Act.put, List.setIfInBounds_toArray, List.set_cons_zero, List.set_cons_succ, i64_w, i32_w]
           rfl
          refine pure_ (i := 15) (N := some 60) (v := undef) (a' := ?_) #[true, true, true, true, true, true, true, true, true, true, true, true, true, true, true, true, false, false, false, false] rfl rfl (any_of HT_.out (by kernel_rfl)) (fun _ _ _ h => h) (Or.inr ⟨by rfl, rfl⟩) ?_ ?_
          rotate_left
          ·simp only [Act.put, List.setIfInBounds_toArray, List.set_cons_zero, List.set_cons_succ, i64_w, i32_w]
           rfl
          refine pure_ (i := 16) (N := some 61) (v := undef) (a' := ?_) #[true, true, true, true, true, true, true, true, true, true, true, true, true, true, true, true, true, false, false, false] rfl rfl (any_of HT_.out (by kernel_rfl)) (fun _ _ _ h => h) (Or.inr ⟨by rfl, rfl⟩) ?_ ?_
          rotate_left
          ·simp only [Act.put, List.setIfInBounds_toArray, List.set_cons_zero, List.set_cons_succ, i64_w, i32_w]
           rfl
          refine pure_ (i := 17) (N := some 62) (v := undef) (a' := ?_) #[true, true, true, true, true, true, true, true, true, true, true, true, true, true, true, true, true, true, false, false] rfl rfl (any_of HT_.out (by kernel_rfl)) (fun _ _ _ h => h) (Or.inr ⟨by rfl, rfl⟩) ?_ ?_
          rotate_left
          ·simp only [Act.put, List.setIfInBounds_toArray, List.set_cons_zero, List.set_cons_succ, i64_w, i32_w]
           rfl
          refine pure_ (i := 18) (N := some 63) (v := undef) (a' := ?_) #[true, true, true, true, true, true, true, true, true, true, true, true, true, true, true, true, true, true, true, false] rfl rfl (any_of HT_.out (by kernel_rfl)) (fun _ _ _ h => h) (Or.inr ⟨by rfl, rfl⟩) ?_ ?_
          rotate_left
          ·simp only [Act.put, List.setIfInBounds_toArray, List.set_cons_zero, List.set_cons_succ, i64_w, i32_w]
           rfl
          refine pure_ (i := 19) (N := some 64) (v := ?_) (a' := ?_) #[true, true, true, true, true, true, true, true, true, true, true, true, true, true, true, true, true, true, true, true] rfl rfl (any_of HT_.out (by kernel_rfl)) (fun _ _ _ h => h) (Or.inl ⟨by rfl, ?_⟩) ?_ ?_
          rotate_left
          ·intro w'
           go_simp
           with_reducible rfl
          rotate_left
          ·simp only [Act.put, List.setIfInBounds_toArray, List.set_cons_zero, List.set_cons_succ, i64_w, i32_w]
           rfl
          refine done_ (done_of HT_.out (by kernel_rfl)) ?_
          try go_wp2
          go_roundg k2
          case measure => have := HJ2.out; have := HK2.out; omega
          case rel => exact ⟨(wrap64 (x37_2 + 1)), (by first | rfl | (simp; done) | (simp [*]; done)), H', ⟨by have := HJ2.out; have := HK2.out; omega⟩, ⟨by (with_reducible repeat (first | apply Kd.V_alloc | apply Kd.V_drewN | apply Kd.V_drew)); exact Kd.V_mono HO_0.out (fun _ hk => ⟨hk.1, ⟨hk.2.1, hk.2.2.1⟩⟩)⟩, ⟨by (with_reducible repeat (first | apply Kd.N_alloc | apply Kd.N_drewN | apply Kd.N_drew)); exact Kd.N_mono HO_5.out (fun _ hk => ⟨hk.1, hk.2.1⟩)⟩, ⟨by (with_reducible repeat (first | apply Kd.V_alloc | apply Kd.V_drewN | apply Kd.V_drew)); exact Kd.V_mono HO_35.out (fun _ hk => ⟨hk.1, ⟨hk.2.1, hk.2.2.1⟩⟩)⟩, ⟨by (with_reducible repeat (first | refine zqg ?_ _ | refine zqi ?_ | refine zqh ?_ _)); exact BK346.out⟩, ⟨by repeat (first | (with_reducible first | exact HB.out | apply zqj | apply zqb | apply zqf | refine zqk ?_ GE346.out | refine zqk ?_ GE357.out) | exact HB.out)⟩⟩
         ·rw [if_neg c34] at H
          have c34b0 : (((zqe l0 x37_2).f0).toList == a1_2.toList) = false := beq_eq_false_iff_ne.mpr c34
          have c34b1 : (((zqe l0 x37_2).f0).toList != a1_2.toList) = true := bne_iff_ne.mpr c34
          by_cases c41 : t358 < 0
          ·rw [if_pos c41] at H
           have c41b0 : decide (t358 < 0) = true := decide_eq_true c41
           clear c41
           exact absurd ((Option.some.inj H).trans hr) Bool.false_ne_true
          ·rw [if_neg c41] at H
           have c41b0 : decide (t358 < 0) = false := decide_eq_false c41
           clear c41
           by_cases c48 : 0 ≤ t358
           ·rw [if_pos c48] at H
            have c48b0 := eq_true c48
            have c48b1 : decide (0 ≤ t358) = true := decide_eq_true c48
            clear c48
            by_cases c49 : t358 ≤ (wrap64 (t358 + 1))
            ·rw [if_pos c49] at H
             have c49b0 := eq_true c49
             have c49b1 : decide (t358 ≤ (wrap64 (t358 + 1))) = true := decide_eq_true c49
             by_cases c50 : (wrap64 (t358 + 1)) ≤ (t351.length : Int)
             ·rw [if_pos c50] at H
              have c50b0 := eq_true c50
              have c50b1 : decide ((wrap64 (t358 + 1)) ≤ (t351.length : Int)) = true := decide_eq_true c50
              obtain ⟨y359, hy359⟩ : ∃ y_ : List (S39), y_ = ((t351.take ((wrap64 (t358 + 1)) : Int).toNat).drop (t358 : Int).toNat) := ⟨_, rfl⟩
              replace H : ((chicaneref14_Same.f k2 y359 (([(⟨(zqe l0 x37_2).f0, (zqe l0 x37_2).f1, (zqe l0 x37_2).f2, (zqe l0 x37_2).f3⟩ : S39)] : List (S39)))).bind fun t367 => (if t367 = true then (chicanelaw14_NamesOne.l0 k2 l0 t351 l0 (l0.length : Int) (wrap64 (x37_2 + 1)) a1_0 a1_1 a1_2 a1_3 a1_4 a1_5 a1_6 a1_7 a1_8 a1_9 a1_10) else (some false))) = some r := by first | (rw [hy359]; with_reducible exact H) | (have H2_ := (Option.bind_some _ _).symm.trans H; rw [hy359]; with_reducible exact H2_) | (have H2_ := (Option.bind_some _ _).symm.trans H; with_reducible exact H2_) | with_reducible exact H | (rw [hy359]; exact H) | exact H
              have Ny359 := zqd.mk hy359
              clear hy359
              obtain ⟨y364, hy364⟩ : ∃ y_ : List (S39), y_ = (([(⟨(zqe l0 x37_2).f0, (zqe l0 x37_2).f1, (zqe l0 x37_2).f2, (zqe l0 x37_2).f3⟩ : S39)] : List (S39))) := ⟨_, rfl⟩
              replace H : ((chicaneref14_Same.f k2 y359 y364).bind fun t367 => (if t367 = true then (chicanelaw14_NamesOne.l0 k2 l0 t351 l0 (l0.length : Int) (wrap64 (x37_2 + 1)) a1_0 a1_1 a1_2 a1_3 a1_4 a1_5 a1_6 a1_7 a1_8 a1_9 a1_10) else (some false))) = some r := by first | (rw [hy364]; with_reducible exact H) | (have H2_ := (Option.bind_some _ _).symm.trans H; rw [hy364]; with_reducible exact H2_) | (have H2_ := (Option.bind_some _ _).symm.trans H; with_reducible exact H2_) | with_reducible exact H | (rw [hy364]; exact H) | exact H
              have Ny364 := zqd.mk hy364
              clear hy364
              replace H := Option.bind_eq_some_iff.mp H
              obtain ⟨t367, A510, H⟩ := H
              replace H : (if t367 = true then (chicanelaw14_NamesOne.l0 k2 l0 t351 l0 (l0.length : Int) (wrap64 (x37_2 + 1)) a1_0 a1_1 a1_2 a1_3 a1_4 a1_5 a1_6 a1_7 a1_8 a1_9 a1_10) else (some false)) = some r := H
              have A51 := zqd.mk A510
              clear A510
              by_cases c52 : t367 = true
              ·subst c52
               have H1 : (chicanelaw14_NamesOne.l0 k2 l0 t351 l0 (l0.length : Int) (wrap64 (x37_2 + 1)) a1_0 a1_1 a1_2 a1_3 a1_4 a1_5 a1_6 a1_7 a1_8 a1_9 a1_10) = some r := by rw [if_pos rfl] at H; exact H
               clear H
               have H := H1
               clear H1
               have H' := zqd.mk H
               clear H
               have p356 : 0 ≤ (x37_2 : Int) := of_decide_eq_true (by first | (with_reducible assumption) | assumption)
               have q356 : x37_2 < (l0.length : Int) := of_decide_eq_true (by first | (with_reducible assumption) | assumption)
               obtain ⟨ad356, A356_3, c356_3, e356, hx356_0, hx356_1, hx356_2, hx356_3, hl356_3, hi356_3⟩ := at_T39 (Kd.V_reads' HO_35.out).2.2 x37_2 p356 q356
               cases e356
               obtain ⟨ce356, hce356, hMe356, hcc356⟩ := Kd.V_get HO_35.out z39 x37_2 p356 (by first | exact q356 | exact of_decide_eq_true (by first | (with_reducible assumption) | assumption) | (have e_ := (Kd.V_reads' HO_35.out).1; omega))
               obtain ⟨ua356_3, uc356_3, rfl, ul356_3, ge356_3⟩ := k39_openF hMe356
               have hv356_3 := hcc356 3 _ rfl
               rw [add_field _ _ 3 (by omega)] at hv356_3
               replace hv356_3 := Option.some.inj (hv356_3.symm.trans hx356_3)
               injection hv356_3 with hva_ hvn_ hvc_
               rw [hva_] at ge356_3
               rw [hvc_] at ul356_3
               have HL356_3 := zqd.mk (show Kd.V k24 24 _ w.heap.size _ _ ((zqe l0 x37_2).f3) from Kd.V_mk ul356_3 ge356_3)
               clear hva_ hvn_ hvc_ ge356_3 ul356_3
               clear hcc356 hce356
               have HR356_3 := zqd.mk hi356_3
               have HC356_3 := zqd.mk hl356_3
               clear hi356_3 hl356_3
               replace p356 := eq_true p356
               replace q356 := eq_true q356
               try go_wp2_with (first | ((with_reducible refine gate_dst (N := 8) rfl ?_); (try (refine gate_guard (by rfl) ?_; dsimp only)); refine box_event ?hg (N := 8) ?hd (cs := #[.string (⟨#[]⟩ : ByteArray), .bool false, .int .i64 0, .slice none 0 0]) (t := 39) ?hr ?_; (case hd => rfl); (case hg => rfl); (case hr => first | (go_simp; done) | (go_simp; rfl)); intro gb357 hg w53 hbox hb; have n0_ := zqd.mk (Kd.V_below (Kd.V_elderB (by (with_reducible repeat (first | apply Kd.V_alloc | apply Kd.V_drewN | apply Kd.V_drew)); exact HO_0.out) gb357 (Nat.le_of_eq hg.symm)) hb); have n1_ := zqd.mk (Kd.N_below (Kd.N_elderB (by (with_reducible repeat (first | apply Kd.N_alloc | apply Kd.N_drewN | apply Kd.N_drew)); exact HO_5.out) gb357 (Nat.le_of_eq hg.symm)) hb); have n2_ := zqd.mk (Kd.V_below (Kd.V_elderB (by (with_reducible repeat (first | apply Kd.V_alloc | apply Kd.V_drewN | apply Kd.V_drew)); exact HO_35.out) gb357 (Nat.le_of_eq hg.symm)) hb); have n3_ := zqd.mk (Kd.V_below (Kd.V_elderB (by (with_reducible repeat (first | apply Kd.V_alloc | apply Kd.V_drewN | apply Kd.V_drew)); exact HL356_3.out) gb357 (Nat.le_of_eq hg.symm)) hb); have n4_ := zqd.mk (blk_below (g := gb346) (o := .cells #[.int .i64 a1_0, .int .i64 a1_1, .string a1_2, .string a1_3, .bool a1_4, .string a1_5, .int .i64 a1_6, .bool a1_7, .int .i64 a1_8, .int .i64 a1_9, .int .i64 a1_10] 26 (0, 0)) (by (with_reducible repeat (first | refine zqg ?_ _ | refine zqi ?_ | refine zqh ?_ _)); exact BK346.out) hb); have n5_ := zqd.mk (Kd.C_below (by repeat (first | (with_reducible exact HR356_3.out) | (with_reducible refine Kd.C_alloc ?_ _) | (with_reducible refine Kd.C_drewN ?_ _) | (with_reducible refine Kd.C_drew ?_) | exact HR356_3.out)) hb); have n6_ := zqd.mk (below_step (by repeat (first | (with_reducible first | exact HB.out | apply zqj | apply zqb | apply zqf | refine zqk ?_ GE346.out) | exact HB.out)) hb); have n7_ := zqd.mk (hbox); have n8_ := zqd.mk ((by rw [hg]; exact (below_size (by repeat (first | (with_reducible first | exact HB.out | apply zqj | apply zqb | apply zqf | refine zqk ?_ GE346.out) | exact HB.out))) : w.heap.size ≤ gb357)); have n9_ := zqd.mk ((by rw [hg]; exact (below_size (by repeat (first | (with_reducible first | exact HB.out | apply zqj | apply zqb | apply zqf | refine zqk ?_ GE346.out) | exact HB.out))) : w.heap.size ≤ gb357)); have n10_ := zqd.mk ((by rw [hg]; exact Nat.ne_of_lt (blk_lt (g := gb346) (o := .cells #[.int .i64 a1_0, .int .i64 a1_1, .string a1_2, .string a1_3, .bool a1_4, .string a1_5, .int .i64 a1_6, .bool a1_7, .int .i64 a1_8, .int .i64 a1_9, .int .i64 a1_10] 26 (0, 0)) (by (with_reducible repeat (first | refine zqg ?_ _ | refine zqi ?_ | refine zqh ?_ _)); exact BK346.out)) : gb346 ≠ gb357)); have n11_ := zqd.mk ((by rw [hg]; exact Nat.ne_of_gt (blk_lt (g := gb346) (o := .cells #[.int .i64 a1_0, .int .i64 a1_1, .string a1_2, .string a1_3, .bool a1_4, .string a1_5, .int .i64 a1_6, .bool a1_7, .int .i64 a1_8, .int .i64 a1_9, .int .i64 a1_10] 26 (0, 0)) (by (with_reducible repeat (first | refine zqg ?_ _ | refine zqi ?_ | refine zqh ?_ _)); exact BK346.out)) : gb357 ≠ gb346)); clear HO_0; clear HO_5; clear HO_35; clear HL356_3; clear BK346; clear HR356_3; clear HB; have HO_0 := n0_; have HO_5 := n1_; have HO_35 := n2_; have HL356_3 := n3_; have BK346 := n4_; have HR356_3 := n5_; have HB := n6_; have BK357 := n7_; have GW357 := n8_; have GE357 := n9_; have NB346_357 := n10_; have NB357_346 := n11_; clear n0_ n1_ n2_ n3_ n4_ n5_ n6_ n7_ n8_ n9_ n10_ n11_; clear hb hbox hg; have hnb54 := NB357_346.out; have hnc54 := NB346_357.out; have hcz55_0 : w53.cell? ⟨gb357, 0, none⟩ = some (.string (⟨#[]⟩ : ByteArray)) := (zqc BK357.out 0).trans rfl; have hcz55_1 : w53.cell? ⟨gb357, 1, none⟩ = some (.bool false) := (zqc BK357.out 1).trans rfl; have hcz55_2 : w53.cell? ⟨gb357, 2, none⟩ = some (.int .i64 0) := (zqc BK357.out 2).trans rfl; have hcz55_3 : w53.cell? ⟨gb357, 3, none⟩ = some (.slice none 0 0) := (zqc BK357.out 3).trans rfl; have hfz55_0 := zqa BK357.out 0; have hfz55_1 := zqa BK357.out 1; have hfz55_2 := zqa BK357.out 2; have hfz55_3 := zqa BK357.out 3; skip) | ((with_reducible refine gate_callee (f := 14) rfl ?_); refine goesL_ (some 44) rfl rfl Tryz.func14 (by kernel_rfl) rfl #[.slice Ao_v352 t351.length co_v352, .string ((zqe l0 x37_2).f0)] rfl (by (try simp only [List.map_toArray, List.map_cons, List.map_nil]); first | done | rfl | (simp only [List.length_drop, List.length_take]; rfl)) ?_; (with_reducible refine (chicaneref14_Find.calls k2 _ _ t351 ((zqe l0 x37_2).f0) t358 _ ?side1 ?side2 A33.out).mono ?_); (case side1 => refine (Kd.N_reads' (e := 39) (base := w.heap.size) (ok := fun k_ => (((P0_ k_ ∨ w.heap.size ≤ k_) ∧ k_ ≠ gb346) ∧ k_ ≠ gb357)) (n := t351.length) (c := co_v352) ?_).2.2; exact (by (with_reducible repeat (first | apply Kd.N_alloc | apply Kd.N_drewN | apply Kd.N_drew)); exact (Kd.N_mono (Kd.N_far (p := ⟨gb357, 3, none⟩) (Kd.N_far (p := ⟨gb357, 2, none⟩) (Kd.N_far (p := ⟨gb357, 1, none⟩) (Kd.N_far (p := ⟨gb357, 0, none⟩) (Kd.N_mono HO_5.out (fun k_ hk => (⟨hk, hk.2⟩ : _ ∧ k_ ≠ gb357))) (fun _ hk => hk.2) (.string ((zqe l0 x37_2).f0))) (fun _ hk => hk.2) (.bool ((zqe l0 x37_2).f1))) (fun _ hk => hk.2) (.int .i64 ((zqe l0 x37_2).f2))) (fun _ hk => hk.2) (.slice A356_3 ((zqe l0 x37_2).f3).length c356_3)) (fun _ h_ => h_.1)))); (case side2 => exact (Kd.N_reads' HO_5.out).2.1); rintro e w' ⟨rfl, ⟨nd, rfl⟩⟩; refine ⟨_, rfl, ?_⟩))
               have n0_ : zqd (Kd.V k39 39 ((((w53.setCell ⟨gb357, 0, none⟩ (.string ((zqe l0 x37_2).f0))).setCell ⟨gb357, 1, none⟩ (.bool ((zqe l0 x37_2).f1))).setCell ⟨gb357, 2, none⟩ (.int .i64 ((zqe l0 x37_2).f2))).setCell ⟨gb357, 3, none⟩ (.slice A356_3 ((zqe l0 x37_2).f3).length c356_3)) w.heap.size (fun k_ => (P0_ k_ ∨ w.heap.size ≤ k_) ∧ some k_ ≠ (.slice Ao_v352 t351.length co_v352 : Value).ownBlock ∧ k_ ≠ gb346 ∧ k_ ≠ gb357) (.slice (some ad356) l0.length c0) l0) := ⟨by (with_reducible repeat (first | apply Kd.V_alloc | apply Kd.V_drewN | apply Kd.V_drew)); exact Kd.V_mono (Kd.V_far (p := ⟨gb357, 3, none⟩) (Kd.V_far (p := ⟨gb357, 2, none⟩) (Kd.V_far (p := ⟨gb357, 1, none⟩) (Kd.V_far (p := ⟨gb357, 0, none⟩) (Kd.V_mono HO_0.out (fun k_ hk => (⟨hk, hk.2⟩ : _ ∧ k_ ≠ gb357))) (fun _ hk => hk.2) (.string ((zqe l0 x37_2).f0))) (fun _ hk => hk.2) (.bool ((zqe l0 x37_2).f1))) (fun _ hk => hk.2) (.int .i64 ((zqe l0 x37_2).f2))) (fun _ hk => hk.2) (.slice A356_3 ((zqe l0 x37_2).f3).length c356_3)) (fun _ hk => ⟨hk.1.1.1, ⟨hk.1.1.2.1, ⟨hk.1.1.2.2, hk.1.2⟩⟩⟩)⟩
               have n1_ : zqd (Kd.N k39 39 ((((w53.setCell ⟨gb357, 0, none⟩ (.string ((zqe l0 x37_2).f0))).setCell ⟨gb357, 1, none⟩ (.bool ((zqe l0 x37_2).f1))).setCell ⟨gb357, 2, none⟩ (.int .i64 ((zqe l0 x37_2).f2))).setCell ⟨gb357, 3, none⟩ (.slice A356_3 ((zqe l0 x37_2).f3).length c356_3)) w.heap.size (fun k_ => (P0_ k_ ∨ w.heap.size ≤ k_) ∧ k_ ≠ gb346 ∧ k_ ≠ gb357) (.slice Ao_v352 t351.length co_v352) t351) := ⟨by (with_reducible repeat (first | apply Kd.N_alloc | apply Kd.N_drewN | apply Kd.N_drew)); exact Kd.N_mono (Kd.N_far (p := ⟨gb357, 3, none⟩) (Kd.N_far (p := ⟨gb357, 2, none⟩) (Kd.N_far (p := ⟨gb357, 1, none⟩) (Kd.N_far (p := ⟨gb357, 0, none⟩) (Kd.N_mono HO_5.out (fun k_ hk => (⟨hk, hk.2⟩ : _ ∧ k_ ≠ gb357))) (fun _ hk => hk.2) (.string ((zqe l0 x37_2).f0))) (fun _ hk => hk.2) (.bool ((zqe l0 x37_2).f1))) (fun _ hk => hk.2) (.int .i64 ((zqe l0 x37_2).f2))) (fun _ hk => hk.2) (.slice A356_3 ((zqe l0 x37_2).f3).length c356_3)) (fun _ hk => ⟨hk.1.1.1, ⟨hk.1.1.2, hk.1.2⟩⟩)⟩
               have n2_ : zqd (Kd.V k39 39 ((((w53.setCell ⟨gb357, 0, none⟩ (.string ((zqe l0 x37_2).f0))).setCell ⟨gb357, 1, none⟩ (.bool ((zqe l0 x37_2).f1))).setCell ⟨gb357, 2, none⟩ (.int .i64 ((zqe l0 x37_2).f2))).setCell ⟨gb357, 3, none⟩ (.slice A356_3 ((zqe l0 x37_2).f3).length c356_3)) w.heap.size (fun k_ => (P0_ k_ ∨ w.heap.size ≤ k_) ∧ some k_ ≠ (.slice Ao_v352 t351.length co_v352 : Value).ownBlock ∧ k_ ≠ gb346 ∧ k_ ≠ gb357) (.slice (some ad356) l0.length c0) l0) := ⟨by (with_reducible repeat (first | apply Kd.V_alloc | apply Kd.V_drewN | apply Kd.V_drew)); exact Kd.V_mono (Kd.V_far (p := ⟨gb357, 3, none⟩) (Kd.V_far (p := ⟨gb357, 2, none⟩) (Kd.V_far (p := ⟨gb357, 1, none⟩) (Kd.V_far (p := ⟨gb357, 0, none⟩) (Kd.V_mono HO_35.out (fun k_ hk => (⟨hk, hk.2⟩ : _ ∧ k_ ≠ gb357))) (fun _ hk => hk.2) (.string ((zqe l0 x37_2).f0))) (fun _ hk => hk.2) (.bool ((zqe l0 x37_2).f1))) (fun _ hk => hk.2) (.int .i64 ((zqe l0 x37_2).f2))) (fun _ hk => hk.2) (.slice A356_3 ((zqe l0 x37_2).f3).length c356_3)) (fun _ hk => ⟨hk.1.1.1, ⟨hk.1.1.2.1, ⟨hk.1.1.2.2, hk.1.2⟩⟩⟩)⟩
               have n3_ : zqd (Kd.V k24 24 ((((w53.setCell ⟨gb357, 0, none⟩ (.string ((zqe l0 x37_2).f0))).setCell ⟨gb357, 1, none⟩ (.bool ((zqe l0 x37_2).f1))).setCell ⟨gb357, 2, none⟩ (.int .i64 ((zqe l0 x37_2).f2))).setCell ⟨gb357, 3, none⟩ (.slice A356_3 ((zqe l0 x37_2).f3).length c356_3)) w.heap.size (fun k_ => (P0_ k_ ∨ w.heap.size ≤ k_) ∧ some k_ ≠ (.slice Ao_v352 t351.length co_v352 : Value).ownBlock ∧ k_ ≠ gb346 ∧ k_ ≠ gb357) (.slice A356_3 ((zqe l0 x37_2).f3).length c356_3) ((zqe l0 x37_2).f3)) := ⟨by (with_reducible repeat (first | apply Kd.V_alloc | apply Kd.V_drewN | apply Kd.V_drew)); exact Kd.V_mono (Kd.V_far (p := ⟨gb357, 3, none⟩) (Kd.V_far (p := ⟨gb357, 2, none⟩) (Kd.V_far (p := ⟨gb357, 1, none⟩) (Kd.V_far (p := ⟨gb357, 0, none⟩) (Kd.V_mono HL356_3.out (fun k_ hk => (⟨hk, hk.2⟩ : _ ∧ k_ ≠ gb357))) (fun _ hk => hk.2) (.string ((zqe l0 x37_2).f0))) (fun _ hk => hk.2) (.bool ((zqe l0 x37_2).f1))) (fun _ hk => hk.2) (.int .i64 ((zqe l0 x37_2).f2))) (fun _ hk => hk.2) (.slice A356_3 ((zqe l0 x37_2).f3).length c356_3)) (fun _ hk => ⟨hk.1.1.1, ⟨hk.1.1.2.1, ⟨hk.1.1.2.2, hk.1.2⟩⟩⟩)⟩
               have n4_ : zqd (((((w53.setCell ⟨gb357, 0, none⟩ (.string ((zqe l0 x37_2).f0))).setCell ⟨gb357, 1, none⟩ (.bool ((zqe l0 x37_2).f1))).setCell ⟨gb357, 2, none⟩ (.int .i64 ((zqe l0 x37_2).f2))).setCell ⟨gb357, 3, none⟩ (.slice A356_3 ((zqe l0 x37_2).f3).length c356_3)).heap[gb346]? = some (.cells #[.int .i64 a1_0, .int .i64 a1_1, .string a1_2, .string a1_3, .bool a1_4, .string a1_5, .int .i64 a1_6, .bool a1_7, .int .i64 a1_8, .int .i64 a1_9, .int .i64 a1_10] 26 (0, 0))) := ⟨by (with_reducible repeat (first | refine zqg ?_ _ | refine zqi ?_ | refine zqh ?_ _)); refine blk_far ?_ NB346_357.out _; (with_reducible repeat (first | refine zqg ?_ _ | refine zqi ?_ | refine zqh ?_ _)); refine blk_far ?_ NB346_357.out _; (with_reducible repeat (first | refine zqg ?_ _ | refine zqi ?_ | refine zqh ?_ _)); refine blk_far ?_ NB346_357.out _; (with_reducible repeat (first | refine zqg ?_ _ | refine zqi ?_ | refine zqh ?_ _)); refine blk_far ?_ NB346_357.out _; (with_reducible repeat (first | refine zqg ?_ _ | refine zqi ?_ | refine zqh ?_ _)); exact BK346.out⟩
               have n5_ : zqd (((((w53.setCell ⟨gb357, 0, none⟩ (.string ((zqe l0 x37_2).f0))).setCell ⟨gb357, 1, none⟩ (.bool ((zqe l0 x37_2).f1))).setCell ⟨gb357, 2, none⟩ (.int .i64 ((zqe l0 x37_2).f2))).setCell ⟨gb357, 3, none⟩ (.slice A356_3 ((zqe l0 x37_2).f3).length c356_3)).heap[gb357]? = some (.cells #[.string ((zqe l0 x37_2).f0), .bool ((zqe l0 x37_2).f1), .int .i64 ((zqe l0 x37_2).f2), .slice A356_3 ((zqe l0 x37_2).f3).length c356_3] 39 (0, 0))) := ⟨by (with_reducible repeat (first | refine zqg ?_ _ | refine zqi ?_ | refine zqh ?_ _)); refine blk_put (cs := #[.string ((zqe l0 x37_2).f0), .bool ((zqe l0 x37_2).f1), .int .i64 ((zqe l0 x37_2).f2), .slice none 0 0]) ?_ 3 _ rfl; (with_reducible repeat (first | refine zqg ?_ _ | refine zqi ?_ | refine zqh ?_ _)); refine blk_put (cs := #[.string ((zqe l0 x37_2).f0), .bool ((zqe l0 x37_2).f1), .int .i64 0, .slice none 0 0]) ?_ 2 _ rfl; (with_reducible repeat (first | refine zqg ?_ _ | refine zqi ?_ | refine zqh ?_ _)); refine blk_put (cs := #[.string ((zqe l0 x37_2).f0), .bool false, .int .i64 0, .slice none 0 0]) ?_ 1 _ rfl; (with_reducible repeat (first | refine zqg ?_ _ | refine zqi ?_ | refine zqh ?_ _)); refine blk_put (cs := #[.string (⟨#[]⟩ : ByteArray), .bool false, .int .i64 0, .slice none 0 0]) ?_ 0 _ rfl; (with_reducible repeat (first | refine zqg ?_ _ | refine zqi ?_ | refine zqh ?_ _)); exact BK357.out⟩
               have n6_ : zqd (Below w.heap.size w ((((w53.setCell ⟨gb357, 0, none⟩ (.string ((zqe l0 x37_2).f0))).setCell ⟨gb357, 1, none⟩ (.bool ((zqe l0 x37_2).f1))).setCell ⟨gb357, 2, none⟩ (.int .i64 ((zqe l0 x37_2).f2))).setCell ⟨gb357, 3, none⟩ (.slice A356_3 ((zqe l0 x37_2).f3).length c356_3))) := ⟨by repeat (first | (with_reducible first | exact HB.out | apply zqj | apply zqb | apply zqf | refine zqk ?_ GE346.out | refine zqk ?_ GE357.out) | exact HB.out)⟩
               (try clear HO_0)
               (try clear HO_5)
               (try clear HO_35)
               (try clear HL356_3)
               (try clear BK346)
               (try clear BK357)
               (try clear HB)
               generalize ((((w53.setCell ⟨gb357, 0, none⟩ (.string ((zqe l0 x37_2).f0))).setCell ⟨gb357, 1, none⟩ (.bool ((zqe l0 x37_2).f1))).setCell ⟨gb357, 2, none⟩ (.int .i64 ((zqe l0 x37_2).f2))).setCell ⟨gb357, 3, none⟩ (.slice A356_3 ((zqe l0 x37_2).f3).length c356_3)) = w57 at n0_ n1_ n2_ n3_ n4_ n5_ n6_ ⊢
               have HO_0 := n0_
               have HO_5 := n1_
               have HO_35 := n2_
               have HL356_3 := n3_
               have BK346 := n4_
               have BK357 := n5_
               have HB := n6_
               clear n0_ n1_ n2_ n3_ n4_ n5_ n6_
               (try (rw [drewN_self w57]; generalize hq_ : World.drewN w57 _ = w57; have n0_ : zqd (Kd.V k24 24 w57 w.heap.size (fun k_ => (P0_ k_ ∨ w.heap.size ≤ k_) ∧ some k_ ≠ (.slice Ao_v352 t351.length co_v352 : Value).ownBlock ∧ k_ ≠ gb346 ∧ k_ ≠ gb357) (.slice A356_3 ((zqe l0 x37_2).f3).length c356_3) ((zqe l0 x37_2).f3)) := ⟨by rw [← hq_]; exact (by (with_reducible repeat (first | apply Kd.V_alloc | apply Kd.V_drewN | apply Kd.V_drew)); exact HL356_3.out)⟩; have n1_ : zqd (Kd.V k39 39 w57 w.heap.size (fun k_ => (P0_ k_ ∨ w.heap.size ≤ k_) ∧ some k_ ≠ (.slice Ao_v352 t351.length co_v352 : Value).ownBlock ∧ k_ ≠ gb346 ∧ k_ ≠ gb357) (.slice (some ad356) l0.length c0) l0) := ⟨by rw [← hq_]; exact (by (with_reducible repeat (first | apply Kd.V_alloc | apply Kd.V_drewN | apply Kd.V_drew)); exact HO_0.out)⟩; have n2_ : zqd (Kd.V k39 39 w57 w.heap.size (fun k_ => (P0_ k_ ∨ w.heap.size ≤ k_) ∧ some k_ ≠ (.slice Ao_v352 t351.length co_v352 : Value).ownBlock ∧ k_ ≠ gb346 ∧ k_ ≠ gb357) (.slice (some ad356) l0.length c0) l0) := ⟨by rw [← hq_]; exact (by (with_reducible repeat (first | apply Kd.V_alloc | apply Kd.V_drewN | apply Kd.V_drew)); exact HO_35.out)⟩; have n3_ : zqd (Kd.N k39 39 w57 w.heap.size (fun k_ => (P0_ k_ ∨ w.heap.size ≤ k_) ∧ k_ ≠ gb346 ∧ k_ ≠ gb357) (.slice Ao_v352 t351.length co_v352) t351) := ⟨by rw [← hq_]; exact (by (with_reducible repeat (first | apply Kd.N_alloc | apply Kd.N_drewN | apply Kd.N_drew)); exact HO_5.out)⟩; have n4_ : zqd (w57.heap[gb346]? = some (.cells #[.int .i64 a1_0, .int .i64 a1_1, .string a1_2, .string a1_3, .bool a1_4, .string a1_5, .int .i64 a1_6, .bool a1_7, .int .i64 a1_8, .int .i64 a1_9, .int .i64 a1_10] 26 (0, 0))) := ⟨by rw [← hq_]; exact (by (with_reducible repeat (first | refine zqg ?_ _ | refine zqi ?_ | refine zqh ?_ _)); exact BK346.out)⟩; have n5_ : zqd (w57.heap[gb357]? = some (.cells #[.string ((zqe l0 x37_2).f0), .bool ((zqe l0 x37_2).f1), .int .i64 ((zqe l0 x37_2).f2), .slice A356_3 ((zqe l0 x37_2).f3).length c356_3] 39 (0, 0))) := ⟨by rw [← hq_]; exact (by (with_reducible repeat (first | refine zqg ?_ _ | refine zqi ?_ | refine zqh ?_ _)); exact BK357.out)⟩; have n6_ : zqd (Below w.heap.size w w57) := ⟨by rw [← hq_]; exact (by repeat (first | (with_reducible first | exact HB.out | apply zqj | apply zqb | apply zqf | refine zqk ?_ GE346.out | refine zqk ?_ GE357.out) | exact HB.out))⟩; clear HL356_3 HO_0 HO_35 HO_5 BK346 BK357 HB hq_; have HL356_3 := n0_; have HO_0 := n1_; have HO_35 := n2_; have HO_5 := n3_; have BK346 := n4_; have BK357 := n5_; have HB := n6_; clear n0_ n1_ n2_ n3_ n4_ n5_ n6_))
               have n0_ := zqd.mk (Kd.V_drew HO_0.out)
               have n1_ := zqd.mk (Kd.N_drew HO_5.out)
               have n2_ := zqd.mk (Kd.V_drew HO_35.out)
               have n3_ := zqd.mk (Kd.V_drew HL356_3.out)
               have n4_ := zqd.mk (zqi BK346.out)
               have n5_ := zqd.mk (zqi BK357.out)
               have n6_ := zqd.mk (zqf HB.out)
               clear HO_0
               clear HO_5
               clear HO_35
               clear HL356_3
               clear BK346
               clear BK357
               clear HB
               have HO_0 := n0_
               have HO_5 := n1_
               have HO_35 := n2_
               have HL356_3 := n3_
               have BK346 := n4_
               have BK357 := n5_
               have HB := n6_
               clear n0_ n1_ n2_ n3_ n4_ n5_ n6_
               have q59 : ((wrap64 (t358 + 1)) : Int) ≤ ((t351.length : Int) : Int) := of_decide_eq_true (by first | (with_reducible assumption) | assumption)
               obtain ⟨i059, hi059, _, hsz59, _⟩ := info_parts info39
               have hroom59 : t351.length ≤ co_v352 := (Kd.N_reads' HO_5.out).2.1
               have hC59 : Kd.F k39 _ _ Ao_v352 t351.length t351 := (Kd.V_at (base := w.heap.size) (Kd.N_V HO_5.out)).2.2
               have ql59 : (t358 : Int) ≤ ((wrap64 (t358 + 1)) : Int) := of_decide_eq_true (by first | (with_reducible assumption) | assumption)
               have q059 : (0 : Int) ≤ (t358 : Int) := of_decide_eq_true (by first | (with_reducible assumption) | assumption)
               have hcut59 := cut_mid (P := Tryz.prog) 22 39 .i64 .i64 Tryz.underlying22 hi059 4 hsz59 Ao_v352 t351.length co_v352 t358 (wrap64 (t358 + 1)) q059 ql59 q59 hroom59
               have hr59 := Kd.F_mid (lo := (t358 : Int).toNat) (hi := ((wrap64 (t358 + 1)) : Int).toNat) (c := co_v352) hC59 (by omega) (by omega) hroom59
               obtain ⟨A59, hA59⟩ : ∃ A1, A1 = (if co_v352 = (t358 : Int).toNat then Ao_v352 else (Ao_v352 : Option Addr).map (·.add ((t358 : Int).toNat * 4))) := ⟨_, rfl⟩
               obtain ⟨c59, hc59⟩ : ∃ c1, c1 = co_v352 - (t358 : Int).toNat := ⟨_, rfl⟩
               have hy59 : y359.length = ((wrap64 (t358 + 1)) : Int).toNat - (t358 : Int).toNat := (by rw [Ny359.out, List.length_drop, List.length_take] <;> omega)
               rw [show ((t351).take ((wrap64 (t358 + 1)) : Int).toNat).drop (t358 : Int).toNat = y359 from Ny359.out.symm] at hr59
               replace hr59 : Kd.F k39 _ _ A59 y359.length y359 := (by rw [hA59]; exact hr59)
               rw [← hy59, ← hA59, ← hc59] at hcut59
               have HO363 := zqd.mk (show Kd.V k39 39 _ w.heap.size _ (.slice A59 y359.length c59) y359 from Kd.V_mk (by rw [hy59, hc59]; exact Nat.sub_le_sub_right (Nat.le_trans (by omega) hroom59) _) hr59)
               have HC363 := zqd.mk (show y359.length ≤ c59 from by rw [hy59, hc59]; exact Nat.sub_le_sub_right (Nat.le_trans (by omega) hroom59) _)
               clear hr59 hC59 hroom59 hi059 hsz59 hc59
               have KY59 := zqd.mk hy59
               have KA59 := zqd.mk hA59
               clear hy59 hA59
               replace q59 := eq_true q59
               refine start_ (n := 20) (S := fun w' => w'.cell? ⟨gb357, 0, none⟩ = some (.string ((zqe l0 x37_2).f0)) ∧ w'.cell? ⟨gb357, 1, none⟩ = some (.bool ((zqe l0 x37_2).f1)) ∧ w'.cell? ⟨gb357, 2, none⟩ = some (.int .i64 ((zqe l0 x37_2).f2)) ∧ w'.cell? ⟨gb357, 3, none⟩ = some (.slice A356_3 ((zqe l0 x37_2).f3).length c356_3) ∧ w'.cell? ⟨gb346, 0, none⟩ = some (.int .i64 a1_0) ∧ w'.cell? ⟨gb346, 1, none⟩ = some (.int .i64 a1_1) ∧ w'.cell? ⟨gb346, 2, none⟩ = some (.string a1_2) ∧ w'.cell? ⟨gb346, 3, none⟩ = some (.string a1_3) ∧ w'.cell? ⟨gb346, 4, none⟩ = some (.bool a1_4) ∧ w'.cell? ⟨gb346, 5, none⟩ = some (.string a1_5) ∧ w'.cell? ⟨gb346, 6, none⟩ = some (.int .i64 a1_6) ∧ w'.cell? ⟨gb346, 7, none⟩ = some (.bool a1_7) ∧ w'.cell? ⟨gb346, 8, none⟩ = some (.int .i64 a1_8) ∧ w'.cell? ⟨gb346, 9, none⟩ = some (.int .i64 a1_9) ∧ w'.cell? ⟨gb346, 10, none⟩ = some (.int .i64 a1_10)) (ds := []) #[false, false, false, false, false, false, false, false, false, false, false, false, false, false, false, false, false, false, false, false] (by kernel_rfl) rfl rfl ⟨(zqc BK357.out 0).trans rfl, (zqc BK357.out 1).trans rfl, (zqc BK357.out 2).trans rfl, (zqc BK357.out 3).trans rfl, (zqc BK346.out 0).trans rfl, (zqc BK346.out 1).trans rfl, (zqc BK346.out 2).trans rfl, (zqc BK346.out 3).trans rfl, (zqc BK346.out 4).trans rfl, (zqc BK346.out 5).trans rfl, (zqc BK346.out 6).trans rfl, (zqc BK346.out 7).trans rfl, (zqc BK346.out 8).trans rfl, (zqc BK346.out 9).trans rfl, (zqc BK346.out 10).trans rfl⟩ (fun hHeld => ?_); refine with_tabW chicanelaw14_NamesOne.tab8 chicanelaw14_NamesOne.bits8 (fun HT_ HW_ => ?_)
               generalize w57.drew = w58 at HO_0 HO_5 HO_35 HL356_3 BK346 BK357 HB HO363 hHeld ⊢
               refine pure_ (i := 0) (N := some 45) (v := ?_) (a' := ?_) #[true, false, false, false, false, false, false, false, false, false, false, false, false, false, false, false, false, false, false, false] rfl rfl (any_of HT_.out (by kernel_rfl)) (fun _ _ _ h => h) (Or.inl ⟨by rfl, ?_⟩) ?_ ?_
               rotate_left
               ·intro w'
                go_simp
                with_reducible rfl
               rotate_left
               ·simp only [Act.put, List.setIfInBounds_toArray, List.set_cons_zero, List.set_cons_succ, i64_w, i32_w]
                rfl
               refine pure_ (i := 2) (N := some 47) (v := ?_) (a' := ?_) #[true, false, true, false, false, false, false, false, false, false, false, false, false, false, false, false, false, false, false, false] rfl rfl (any_of HT_.out (by kernel_rfl)) (fun _ _ _ h => h) (Or.inl ⟨by rfl, ?_⟩) ?_ ?_
               rotate_left
               ·intro w'
                go_simp
                with_reducible rfl
               rotate_left
               ·simp only [Act.put, List.setIfInBounds_toArray, List.set_cons_zero, List.set_cons_succ, i64_w, i32_w]
                rfl
               refine take_ (i := 1) (N := some 46) (v := ?_) (a' := ?_) #[true, true, true, false, false, false, false, false, false, false, false, false, false, false, false, false, false, false, false, false] rfl rfl (take_ofW HT_.out HW_.out (by kernel_rfl)) (fun _ _ _ h => h) (Or.inl ⟨by rfl, ?_⟩) hHeld ?_ ?_
               rotate_left
               ·rintro w' ⟨s0, s1, s2, s3, s4, s5, s6, s7, s8, s9, s10, s11, s12, s13, s14⟩
                go_simp
                with_reducible rfl
               rotate_left
               ·simp only [Act.put, List.setIfInBounds_toArray, List.set_cons_zero, List.set_cons_succ, i64_w, i32_w]
                rfl
               refine take_ (i := 3) (N := some 48) (v := ?_) (a' := ?_) #[true, true, true, true, false, false, false, false, false, false, false, false, false, false, false, false, false, false, false, false] rfl rfl (take_ofW HT_.out HW_.out (by kernel_rfl)) (fun _ _ _ h => h) (Or.inl ⟨by rfl, ?_⟩) hHeld ?_ ?_
               rotate_left
               ·rintro w' ⟨s0, s1, s2, s3, s4, s5, s6, s7, s8, s9, s10, s11, s12, s13, s14⟩
                go_simp
                with_reducible rfl
               rotate_left
               ·simp only [Act.put, List.setIfInBounds_toArray, List.set_cons_zero, List.set_cons_succ, i64_w, i32_w]
                rfl
               refine pure_ (i := 4) (N := some 49) (v := ?_) (a' := ?_) #[true, true, true, true, true, false, false, false, false, false, false, false, false, false, false, false, false, false, false, false] rfl rfl (any_of HT_.out (by kernel_rfl)) (fun _ _ _ h => h) (Or.inl ⟨by rfl, ?_⟩) ?_ ?_
               rotate_left
               ·intro w'
                go_simp
                with_reducible rfl
               rotate_left
               ·simp only [Act.put, List.setIfInBounds_toArray, List.set_cons_zero, List.set_cons_succ, i64_w, i32_w]
                rfl
               refine pure_ (i := 5) (N := some 50) (v := ?_) (a' := ?_) #[true, true, true, true, true, true, false, false, false, false, false, false, false, false, false, false, false, false, false, false] rfl rfl (any_of HT_.out (by kernel_rfl)) (fun _ _ _ h => h) (Or.inl ⟨by rfl, ?_⟩) ?_ ?_
               rotate_left
               ·intro w'
                go_simp
                with_reducible rfl
               rotate_left
               ·simp only [Act.put, List.setIfInBounds_toArray, List.set_cons_zero, List.set_cons_succ, i64_w, i32_w]
                rfl
               refine pure_ (i := 6) (N := some 51) (v := ?_) (a' := ?_) #[true, true, true, true, true, true, true, false, false, false, false, false, false, false, false, false, false, false, false, false] rfl rfl (any_of HT_.out (by kernel_rfl)) (fun _ _ _ h => h) (Or.inl ⟨by rfl, ?_⟩) ?_ ?_
               rotate_left
               ·intro w'
                go_simp
                with_reducible rfl
               rotate_left
               ·simp only [Act.put, List.setIfInBounds_toArray, List.set_cons_zero, List.set_cons_succ, i64_w, i32_w]
                rfl
               refine pure_ (i := 7) (N := some 52) (v := ?_) (a' := ?_) #[true, true, true, true, true, true, true, true, false, false, false, false, false, false, false, false, false, false, false, false] rfl rfl (any_of HT_.out (by kernel_rfl)) (fun _ _ _ h => h) (Or.inl ⟨by rfl, ?_⟩) ?_ ?_
               rotate_left
               ·intro w'
                go_simp
                with_reducible rfl
               rotate_left
               ·simp only [Act.put, List.setIfInBounds_toArray, List.set_cons_zero, List.set_cons_succ, i64_w, i32_w]
                rfl
               refine pure_ (i := 8) (N := some 53) (v := ?_) (a' := ?_) #[true, true, true, true, true, true, true, true, true, false, false, false, false, false, false, false, false, false, false, false] rfl rfl (any_of HT_.out (by kernel_rfl)) (fun _ _ _ h => h) (Or.inl ⟨by rfl, ?_⟩) ?_ ?_
               rotate_left
               ·intro w'
                go_simp
                with_reducible rfl
               rotate_left
               ·simp only [Act.put, List.setIfInBounds_toArray, List.set_cons_zero, List.set_cons_succ, i64_w, i32_w]
                rfl
               refine pure_ (i := 9) (N := some 54) (v := ?_) (a' := ?_) #[true, true, true, true, true, true, true, true, true, true, false, false, false, false, false, false, false, false, false, false] rfl rfl (any_of HT_.out (by kernel_rfl)) (fun _ _ _ h => h) (Or.inl ⟨by rfl, ?_⟩) ?_ ?_
               rotate_left
               ·intro w'
                go_simp
                with_reducible rfl
               rotate_left
               ·simp only [Act.put, List.setIfInBounds_toArray, List.set_cons_zero, List.set_cons_succ, i64_w, i32_w]
                rfl
               refine pure_ (i := 10) (N := some 55) (v := ?_) (a' := ?_) #[true, true, true, true, true, true, true, true, true, true, true, false, false, false, false, false, false, false, false, false] rfl rfl (any_of HT_.out (by kernel_rfl)) (fun _ _ _ h => h) (Or.inl ⟨by rfl, ?_⟩) ?_ ?_
               rotate_left
               ·intro w'
                go_simp
                with_reducible rfl
               rotate_left
               ·simp only [Act.put, List.setIfInBounds_toArray, List.set_cons_zero, List.set_cons_succ, i64_w, i32_w]
                rfl
               refine pure_ (i := 11) (N := some 56) (v := ?_) (a' := ?_) #[true, true, true, true, true, true, true, true, true, true, true, true, false, false, false, false, false, false, false, false] rfl rfl (any_of HT_.out (by kernel_rfl)) (fun _ _ _ h => h) (Or.inl ⟨by rfl, ?_⟩) ?_ ?_
               rotate_left
               ·intro w'
                go_simp
                with_reducible rfl
               rotate_left
               ·simp only [Act.put, List.setIfInBounds_toArray, List.set_cons_zero, List.set_cons_succ, i64_w, i32_w]
                rfl
               refine pure_ (i := 12) (N := some 57) (v := ?_) (a' := ?_) #[true, true, true, true, true, true, true, true, true, true, true, true, true, false, false, false, false, false, false, false] rfl rfl (any_of HT_.out (by kernel_rfl)) (fun _ _ _ h => h) (Or.inl ⟨by rfl, ?_⟩) ?_ ?_
               rotate_left
               ·intro w'
                go_simp
                with_reducible rfl
               rotate_left
               ·simp only [Act.put, List.setIfInBounds_toArray, List.set_cons_zero, List.set_cons_succ, i64_w, i32_w]
                rfl
               refine pure_ (i := 13) (N := some 58) (v := ?_) (a' := ?_) #[true, true, true, true, true, true, true, true, true, true, true, true, true, true, false, false, false, false, false, false] rfl rfl (any_of HT_.out (by kernel_rfl)) (fun _ _ _ h => h) (Or.inl ⟨by rfl, ?_⟩) ?_ ?_
               rotate_left
               ·intro w'
                go_simp
                with_reducible rfl
               rotate_left
               ·simp only [Act.put, List.setIfInBounds_toArray, List.set_cons_zero, List.set_cons_succ, i64_w, i32_w]
                rfl
               refine take_ (i := 14) (N := some 59) (v := ?_) (a' := ?_) #[true, true, true, true, true, true, true, true, true, true, true, true, true, true, true, false, false, false, false, false] rfl rfl (take_ofW HT_.out HW_.out (by kernel_rfl)) (fun _ _ _ h => h) (Or.inl ⟨by rfl, ?_⟩) hHeld ?_ ?_
               rotate_left
               ·rintro w' ⟨s0, s1, s2, s3, s4, s5, s6, s7, s8, s9, s10, s11, s12, s13, s14⟩
                go_simp
                with_reducible rfl
               rotate_left
               ·simp only [Act.put, List.setIfInBounds_toArray, List.set_cons_zero, List.set_cons_succ, i64_w, i32_w]
                rfl
               refine one_ (i := 15) (N := some 60) #[true, true, true, true, true, true, true, true, true, true, true, true, true, true, true, true, false, false, false, false] rfl rfl (one_of HT_.out (by kernel_rfl)) (by decide) (fun K hK => ?_)
               refine Kd.N_lit_step k39 _ 39 ?hg (N' := 60) ?hd (xs := ([(⟨(zqe l0 x37_2).f0, (zqe l0 x37_2).f1, (zqe l0 x37_2).f2, (zqe l0 x37_2).f3⟩ : S39)] : List (S39))) (inner := [.string ((zqe l0 x37_2).f0), .bool ((zqe l0 x37_2).f1), .int .i64 ((zqe l0 x37_2).f2), .slice A356_3 ((zqe l0 x37_2).f3).length c356_3]) (ok := (fun k_ => (P0_ k_ ∨ w.heap.size ≤ k_) ∧ some k_ ≠ (.slice Ao_v352 t351.length co_v352 : Value).ownBlock ∧ k_ ≠ gb346 ∧ k_ ≠ gb357)) (okp := (fun k_ => (P0_ k_ ∨ w.heap.size ≤ k_) ∧ some k_ ≠ (.slice Ao_v352 t351.length co_v352 : Value).ownBlock ∧ k_ ≠ gb346 ∧ k_ ≠ gb357)) ?hr ?hp (fun _ hk => hk) ((show ∀ k_, w58.heap.size ≤ k_ → (fun k_ => (P0_ k_ ∨ w.heap.size ≤ k_) ∧ some k_ ≠ (.slice Ao_v352 t351.length co_v352 : Value).ownBlock ∧ k_ ≠ gb346 ∧ k_ ≠ gb357) k_ from fun k_ hk => ⟨(.inr (Nat.le_trans (below_size (by repeat (first | (with_reducible first | exact HB.out | apply zqj | apply zqb | apply zqf | refine zqk ?_ GE346.out | refine zqk ?_ GE357.out) | exact HB.out))) hk)), Kd.fresh' (Kd.N_lt (by (with_reducible repeat (first | apply Kd.N_alloc | apply Kd.N_drewN | apply Kd.N_drew)); exact HO_5.out)) k_ hk, Kd.freshB (g := gb346) (o := .cells #[.int .i64 a1_0, .int .i64 a1_1, .string a1_2, .string a1_3, .bool a1_4, .string a1_5, .int .i64 a1_6, .bool a1_7, .int .i64 a1_8, .int .i64 a1_9, .int .i64 a1_10] 26 (0, 0)) (by (with_reducible repeat (first | refine zqg ?_ _ | refine zqi ?_ | refine zqh ?_ _)); exact BK346.out) k_ hk, Kd.freshB (g := gb357) (o := .cells #[.string ((zqe l0 x37_2).f0), .bool ((zqe l0 x37_2).f1), .int .i64 ((zqe l0 x37_2).f2), .slice A356_3 ((zqe l0 x37_2).f3).length c356_3] 39 (0, 0)) (by (with_reducible repeat (first | refine zqg ?_ _ | refine zqi ?_ | refine zqh ?_ _)); exact BK357.out) k_ hk⟩) _ (Nat.le_refl _)) (Below.refl _ _) (Nat.le_refl _) (by simp) ?_; (case hd => rfl); (case hg => rfl); (case hr => first | (go_simp; done) | (go_simp; rfl)); (case hp => exact (Reps.c4 (show Kd.FK k39 _ _ (⟨(zqe l0 x37_2).f0, (zqe l0 x37_2).f1, (zqe l0 x37_2).f2, (zqe l0 x37_2).f3⟩ : S39) [.string ((zqe l0 x37_2).f0), .bool ((zqe l0 x37_2).f1), .int .i64 ((zqe l0 x37_2).f2), .slice A356_3 ((zqe l0 x37_2).f3).length c356_3] from (k39_mkF _ _ (⟨(zqe l0 x37_2).f0, (zqe l0 x37_2).f1, (zqe l0 x37_2).f2, (zqe l0 x37_2).f3⟩ : S39) (Kd.V_reads' (Kd.V_mono (ok' := (fun k_ => (P0_ k_ ∨ w.heap.size ≤ k_) ∧ some k_ ≠ (.slice Ao_v352 t351.length co_v352 : Value).ownBlock ∧ k_ ≠ gb346 ∧ k_ ≠ gb357)) (HL356_3.out) (fun k_ hk => ⟨hk.1, ⟨hk.2.1, ⟨hk.2.2.1, hk.2.2.2⟩⟩⟩))).2.1 (Kd.V_F (Kd.V_mono (ok' := (fun k_ => (P0_ k_ ∨ w.heap.size ≤ k_) ∧ some k_ ≠ (.slice Ao_v352 t351.length co_v352 : Value).ownBlock ∧ k_ ≠ gb346 ∧ k_ ≠ gb357)) (HL356_3.out) (fun k_ hk => ⟨hk.1, ⟨hk.2.1, ⟨hk.2.2.1, hk.2.2.2⟩⟩⟩))))) (Reps.none _ _)))
               intro v365 w60 ho61 hb hg_ hnew_
               clear hg_ hnew_
               (first | rw [← Ny364.out] at ho61 | (simp only [Int.reduceToNat] at ho61; rw [← Ny364.out] at ho61))
               have n0_ := zqd.mk (Kd.V_elder' (by (with_reducible repeat (first | apply Kd.V_alloc | apply Kd.V_drewN | apply Kd.V_drew)); exact HO_0.out) (Kd.N_base ho61) hb)
               have n1_ := zqd.mk (Kd.N_elder' (by (with_reducible repeat (first | apply Kd.N_alloc | apply Kd.N_drewN | apply Kd.N_drew)); exact HO_5.out) (Kd.N_base ho61) hb)
               have n2_ := zqd.mk (Kd.V_elder' (by (with_reducible repeat (first | apply Kd.V_alloc | apply Kd.V_drewN | apply Kd.V_drew)); exact HO_35.out) (Kd.N_base ho61) hb)
               have n3_ := zqd.mk (Kd.V_elder' (by (with_reducible repeat (first | apply Kd.V_alloc | apply Kd.V_drewN | apply Kd.V_drew)); exact HL356_3.out) (Kd.N_base ho61) hb)
               have n4_ := zqd.mk (Kd.V_elder' (by (with_reducible repeat (first | apply Kd.V_alloc | apply Kd.V_drewN | apply Kd.V_drew)); exact HO363.out) (Kd.N_base ho61) hb)
               have n5_ := zqd.mk (Kd.N_lower ho61 (below_size (by repeat (first | (with_reducible first | exact HB.out | apply zqj | apply zqb | apply zqf | refine zqk ?_ GE346.out | refine zqk ?_ GE357.out) | exact HB.out))))
               have n6_ := zqd.mk (blk_below (g := gb346) (o := .cells #[.int .i64 a1_0, .int .i64 a1_1, .string a1_2, .string a1_3, .bool a1_4, .string a1_5, .int .i64 a1_6, .bool a1_7, .int .i64 a1_8, .int .i64 a1_9, .int .i64 a1_10] 26 (0, 0)) (by (with_reducible repeat (first | refine zqg ?_ _ | refine zqi ?_ | refine zqh ?_ _)); exact BK346.out) hb)
               have n7_ := zqd.mk (blk_below (g := gb357) (o := .cells #[.string ((zqe l0 x37_2).f0), .bool ((zqe l0 x37_2).f1), .int .i64 ((zqe l0 x37_2).f2), .slice A356_3 ((zqe l0 x37_2).f3).length c356_3] 39 (0, 0)) (by (with_reducible repeat (first | refine zqg ?_ _ | refine zqi ?_ | refine zqh ?_ _)); exact BK357.out) hb)
               have n8_ := zqd.mk (below_step (by repeat (first | (with_reducible first | exact HB.out | apply zqj | apply zqb | apply zqf | refine zqk ?_ GE346.out | refine zqk ?_ GE357.out) | exact HB.out)) hb)
               clear HO_0
               clear HO_5
               clear HO_35
               clear HL356_3
               clear HO363
               clear BK346
               clear BK357
               clear HB
               have HO_0 := n0_
               have HO_5 := n1_
               have HO_35 := n2_
               have HL356_3 := n3_
               have HO363 := n4_
               have HO366 := n5_
               have BK346 := n6_
               have BK357 := n7_
               have HB := n8_
               clear n0_ n1_ n2_ n3_ n4_ n5_ n6_ n7_ n8_
               clear hb ho61
               obtain ⟨Ao62, co62, eo62⟩ := Kd.N_slice HO366.out
               (first | subst eo62 | (injection eo62 with f1_ f2_ f3_; have f4_ := f1_.symm; have f5_ := f3_.symm; clear f1_ f2_ f3_; subst f4_; subst f5_))
               refine hK.out _ _ ⟨(zqc BK357.out 0).trans rfl, (zqc BK357.out 1).trans rfl, (zqc BK357.out 2).trans rfl, (zqc BK357.out 3).trans rfl, (zqc BK346.out 0).trans rfl, (zqc BK346.out 1).trans rfl, (zqc BK346.out 2).trans rfl, (zqc BK346.out 3).trans rfl, (zqc BK346.out 4).trans rfl, (zqc BK346.out 5).trans rfl, (zqc BK346.out 6).trans rfl, (zqc BK346.out 7).trans rfl, (zqc BK346.out 8).trans rfl, (zqc BK346.out 9).trans rfl, (zqc BK346.out 10).trans rfl⟩ (fun hHeld => ?_)
               clear hK K
               refine norm_ (a' := ?_) ?_ ?_
               rotate_left
               ·show Act.put _ (some 60) _ = _
                simp only [Act.put, List.setIfInBounds_toArray, List.set_cons_zero, List.set_cons_succ, i64_w, i32_w]
                rfl
               refine one_ (i := 16) (N := some 61) #[true, true, true, true, true, true, true, true, true, true, true, true, true, true, true, true, true, false, false, false] rfl rfl (one_of HT_.out (by kernel_rfl)) (by decide) (fun K hK => ?_)
               refine goes_ Tryz.func11 (by kernel_rfl) rfl #[.slice A59 y359.length c59, .slice Ao62 y364.length co62] (by rfl) rfl rfl (by (try simp only [List.map_toArray, List.map_cons, List.map_nil]); first | done | rfl | (simp only [List.length_drop, List.length_take]; rfl)) ?_
               with_reducible refine (chicaneref14_Same.calls k2 _ _ y359 _ _ y364 true _ ?side1 ?side2 ?side3 ?side4 A51.out).mono ?_
               (case side1 => repeat (first | exact (Kd.V_reads' HO363.out).2.2 | (with_reducible refine Kd.C_alloc ?_ _) | (with_reducible refine Kd.C_drewN ?_ _) | (with_reducible refine Kd.C_drew ?_)))
               (case side2 => exact (Kd.V_reads' HO363.out).2.1)
               (case side3 => repeat (first | exact (Kd.N_reads' HO366.out).2.2 | (with_reducible refine Kd.C_alloc ?_ _) | (with_reducible refine Kd.C_drewN ?_ _) | (with_reducible refine Kd.C_drew ?_)))
               (case side4 => exact (Kd.N_reads' HO366.out).2.1)
               rintro e w63 ⟨rfl, hb⟩
               refine ⟨_, rfl, ?_⟩
               have n0_ := zqd.mk (Kd.V_below (by (with_reducible repeat (first | apply Kd.V_alloc | apply Kd.V_drewN | apply Kd.V_drew)); exact HO_0.out) hb)
               have n1_ := zqd.mk (Kd.N_below (by (with_reducible repeat (first | apply Kd.N_alloc | apply Kd.N_drewN | apply Kd.N_drew)); exact HO_5.out) hb)
               have n2_ := zqd.mk (Kd.V_below (by (with_reducible repeat (first | apply Kd.V_alloc | apply Kd.V_drewN | apply Kd.V_drew)); exact HO_35.out) hb)
               have n3_ := zqd.mk (Kd.V_below (by (with_reducible repeat (first | apply Kd.V_alloc | apply Kd.V_drewN | apply Kd.V_drew)); exact HL356_3.out) hb)
               have n4_ := zqd.mk (Kd.V_below (by (with_reducible repeat (first | apply Kd.V_alloc | apply Kd.V_drewN | apply Kd.V_drew)); exact HO363.out) hb)
               have n5_ := zqd.mk (Kd.N_below (by (with_reducible repeat (first | apply Kd.N_alloc | apply Kd.N_drewN | apply Kd.N_drew)); exact HO366.out) hb)
               have n6_ := zqd.mk (blk_below (g := gb346) (o := .cells #[.int .i64 a1_0, .int .i64 a1_1, .string a1_2, .string a1_3, .bool a1_4, .string a1_5, .int .i64 a1_6, .bool a1_7, .int .i64 a1_8, .int .i64 a1_9, .int .i64 a1_10] 26 (0, 0)) (by (with_reducible repeat (first | refine zqg ?_ _ | refine zqi ?_ | refine zqh ?_ _)); exact BK346.out) hb)
               have n7_ := zqd.mk (blk_below (g := gb357) (o := .cells #[.string ((zqe l0 x37_2).f0), .bool ((zqe l0 x37_2).f1), .int .i64 ((zqe l0 x37_2).f2), .slice A356_3 ((zqe l0 x37_2).f3).length c356_3] 39 (0, 0)) (by (with_reducible repeat (first | refine zqg ?_ _ | refine zqi ?_ | refine zqh ?_ _)); exact BK357.out) hb)
               have n8_ := zqd.mk (below_step (by repeat (first | (with_reducible first | exact HB.out | apply zqj | apply zqb | apply zqf | refine zqk ?_ GE346.out | refine zqk ?_ GE357.out) | exact HB.out)) hb)
               clear HO_0
               clear HO_5
               clear HO_35
               clear HL356_3
               clear HO363
               clear HO366
               clear BK346
               clear BK357
               clear HB
               have HO_0 := n0_
               have HO_5 := n1_
               have HO_35 := n2_
               have HL356_3 := n3_
               have HO363 := n4_
               have HO366 := n5_
               have BK346 := n6_
               have BK357 := n7_
               have HB := n8_
               clear n0_ n1_ n2_ n3_ n4_ n5_ n6_ n7_ n8_
               (try clear hb)
               (try clear hb2)
               (try clear hk)
               (try clear hi)
               refine hK.out _ _ ⟨(zqc BK357.out 0).trans rfl, (zqc BK357.out 1).trans rfl, (zqc BK357.out 2).trans rfl, (zqc BK357.out 3).trans rfl, (zqc BK346.out 0).trans rfl, (zqc BK346.out 1).trans rfl, (zqc BK346.out 2).trans rfl, (zqc BK346.out 3).trans rfl, (zqc BK346.out 4).trans rfl, (zqc BK346.out 5).trans rfl, (zqc BK346.out 6).trans rfl, (zqc BK346.out 7).trans rfl, (zqc BK346.out 8).trans rfl, (zqc BK346.out 9).trans rfl, (zqc BK346.out 10).trans rfl⟩ (fun hHeld => ?_)
               clear hK K
               refine norm_ (a' := ?_) ?_ ?_
               rotate_left
               ·show Act.put _ (some 61) _ = _
                simp only [Act.put, List.setIfInBounds_toArray, List.set_cons_zero, List.set_cons_succ, i64_w, i32_w]
                rfl
               refine pure_ (i := 17) (N := some 62) (v := ?_) (a' := ?_) #[true, true, true, true, true, true, true, true, true, true, true, true, true, true, true, true, true, true, false, false] rfl rfl (any_of HT_.out (by kernel_rfl)) (fun _ _ _ h => h) (Or.inl ⟨by rfl, ?_⟩) ?_ ?_
               rotate_left
               ·intro w'
                go_simp
                with_reducible rfl
               rotate_left
               ·simp only [Act.put, List.setIfInBounds_toArray, List.set_cons_zero, List.set_cons_succ, i64_w, i32_w]
                rfl
               refine pure_ (i := 18) (N := some 63) (v := ?_) (a' := ?_) #[true, true, true, true, true, true, true, true, true, true, true, true, true, true, true, true, true, true, true, false] rfl rfl (any_of HT_.out (by kernel_rfl)) (fun _ _ _ h => h) (Or.inl ⟨by rfl, ?_⟩) ?_ ?_
               rotate_left
               ·intro w'
                go_simp
                with_reducible rfl
               rotate_left
               ·simp only [Act.put, List.setIfInBounds_toArray, List.set_cons_zero, List.set_cons_succ, i64_w, i32_w]
                rfl
               refine pure_ (i := 19) (N := some 64) (v := ?_) (a' := ?_) #[true, true, true, true, true, true, true, true, true, true, true, true, true, true, true, true, true, true, true, true] rfl rfl (any_of HT_.out (by kernel_rfl)) (fun _ _ _ h => h) (Or.inl ⟨by rfl, ?_⟩) ?_ ?_
               rotate_left
               ·intro w'
                go_simp
                with_reducible rfl
               rotate_left
               ·simp only [Act.put, List.setIfInBounds_toArray, List.set_cons_zero, List.set_cons_succ, i64_w, i32_w]
                rfl
               refine done_ (done_of HT_.out (by kernel_rfl)) ?_
               try go_wp2
               go_roundg k2
               case measure => have := HJ2.out; have := HK2.out; omega
               case rel => exact ⟨(wrap64 (x37_2 + 1)), (by first | rfl | (simp; done) | (simp [*]; done)), H', ⟨by have := HJ2.out; have := HK2.out; omega⟩, ⟨by (with_reducible repeat (first | apply Kd.V_alloc | apply Kd.V_drewN | apply Kd.V_drew)); exact Kd.V_mono HO_0.out (fun _ hk => ⟨hk.1.1, ⟨hk.1.2.1, hk.1.2.2.1⟩⟩)⟩, ⟨by (with_reducible repeat (first | apply Kd.N_alloc | apply Kd.N_drewN | apply Kd.N_drew)); exact Kd.N_mono HO_5.out (fun _ hk => ⟨hk.1.1, hk.1.2.1⟩)⟩, ⟨by (with_reducible repeat (first | apply Kd.V_alloc | apply Kd.V_drewN | apply Kd.V_drew)); exact Kd.V_mono HO_35.out (fun _ hk => ⟨hk.1.1, ⟨hk.1.2.1, hk.1.2.2.1⟩⟩)⟩, ⟨by (with_reducible repeat (first | refine zqg ?_ _ | refine zqi ?_ | refine zqh ?_ _)); exact BK346.out⟩, ⟨by repeat (first | (with_reducible first | exact HB.out | apply zqj | apply zqb | apply zqf | refine zqk ?_ GE346.out | refine zqk ?_ GE357.out) | exact HB.out)⟩⟩
              ·replace c52 := Bool.eq_false_iff.mpr c52
               subst c52
               have H1 : (some false) = some r := by rw [if_neg (show ¬ (false = true) by decide)] at H; exact H
               clear H
               have H := H1
               clear H1
               exact absurd ((Option.some.inj H).trans hr) Bool.false_ne_true
             ·rw [if_neg c50] at H
              exact absurd H (by simp)
            ·rw [if_neg c49] at H
             exact absurd H (by simp)
           ·rw [if_neg c48] at H
            exact absurd H (by simp)
        ·rw [if_neg c32] at H
         exact absurd H (by simp)
       ·rw [if_neg c31] at H
        exact absurd H (by simp)
      ·rw [if_neg c30] at H
       have c30b0 : decide (x37_2 < (l0.length : Int)) = false := decide_eq_false c30
       clear c30
       replace H := Option.bind_eq_some_iff.mp H
       obtain ⟨t355, A750, H⟩ := H
       replace H : (if t355 = true then (if (t351.length : Int) ≤ (wrap64 ((l0.length : Int) + 1)) then (some (decide ((wrap64 ((t351.length : Int) + 1)) ≥ (l0.length : Int)))) else (some false)) else (some false)) = some r := H
       have A75 := zqd.mk A750
       clear A750
       by_cases c76 : t355 = true
       ·subst c76
        have H1 : (if (t351.length : Int) ≤ (wrap64 ((l0.length : Int) + 1)) then (some (decide ((wrap64 ((t351.length : Int) + 1)) ≥ (l0.length : Int)))) else (some false)) = some r := by rw [if_pos rfl] at H; exact H
        clear H
        have H := H1
        clear H1
        by_cases c77 : (t351.length : Int) ≤ (wrap64 ((l0.length : Int) + 1))
        ·rw [if_pos c77] at H
         have c77b0 : decide ((t351.length : Int) ≤ (wrap64 ((l0.length : Int) + 1))) = true := decide_eq_true c77
         clear c77
         obtain rfl := Option.some.inj H
         go_wp2_with (first | ((with_reducible refine gate_callee (f := 8) rfl ?_); refine goesL_ (some 66) rfl rfl Tryz.func8 (by kernel_rfl) rfl #[] rfl (by (try simp only [List.map_toArray, List.map_cons, List.map_nil]); first | done | rfl | (simp only [List.length_drop, List.length_take]; rfl)) ?_; (with_reducible refine (chicanelaw14_alive.calls k2  true _ A75.out).mono ?_); rintro e w78 ⟨rfl, hb⟩; refine ⟨_, rfl, ?_⟩; have n0_ := zqd.mk (Kd.V_below (by (with_reducible repeat (first | apply Kd.V_alloc | apply Kd.V_drewN | apply Kd.V_drew)); exact HO_0.out) hb); have n1_ := zqd.mk (Kd.N_below (by (with_reducible repeat (first | apply Kd.N_alloc | apply Kd.N_drewN | apply Kd.N_drew)); exact HO_5.out) hb); have n2_ := zqd.mk (Kd.V_below (by (with_reducible repeat (first | apply Kd.V_alloc | apply Kd.V_drewN | apply Kd.V_drew)); exact HO_35.out) hb); have n3_ := zqd.mk (blk_below (g := gb346) (o := .cells #[.int .i64 a1_0, .int .i64 a1_1, .string a1_2, .string a1_3, .bool a1_4, .string a1_5, .int .i64 a1_6, .bool a1_7, .int .i64 a1_8, .int .i64 a1_9, .int .i64 a1_10] 26 (0, 0)) (by (with_reducible repeat (first | refine zqg ?_ _ | refine zqi ?_ | refine zqh ?_ _)); exact BK346.out) hb); have n4_ := zqd.mk (below_step (by repeat (first | (with_reducible first | exact HB.out | apply zqj | apply zqb | apply zqf | refine zqk ?_ GE346.out) | exact HB.out)) hb); clear HO_0; clear HO_5; clear HO_35; clear BK346; clear HB; have HO_0 := n0_; have HO_5 := n1_; have HO_35 := n2_; have BK346 := n3_; have HB := n4_; clear n0_ n1_ n2_ n3_ n4_; (try clear hb); (try clear hb2); (try clear hk); (try clear hi); skip))
         go_ret
         exact ⟨by first | rfl | (simp [errW_none, errW_some] <;> rfl) | (simp [*, errW_none, errW_some] <;> rfl), by repeat (first | (with_reducible first | exact HB.out | apply zqj | apply zqb | apply zqf | refine zqk ?_ GE346.out) | exact HB.out)⟩
        ·rw [if_neg c77] at H
         have c77b0 : decide ((t351.length : Int) ≤ (wrap64 ((l0.length : Int) + 1))) = false := decide_eq_false c77
         clear c77
         exact absurd ((Option.some.inj H).trans hr) Bool.false_ne_true
       ·replace c76 := Bool.eq_false_iff.mpr c76
        subst c76
        have H1 : (some false) = some r := by rw [if_neg (show ¬ (false = true) by decide)] at H; exact H
        clear H
        have H := H1
        clear H1
        exact absurd ((Option.some.inj H).trans hr) Bool.false_ne_true
end Go.Proofs.YtlglbpjccpdloaaGreat.PNamA
set_option linter.unusedVariables false
set_option linter.unusedSimpArgs false
namespace Go.Proofs.YtlglbpjccpdloaaGreat.Ext
open Go.RowKit Go.Proofs.YtlglbpjccpdloaaGreat.PNamA Go.Proofs.YtlglbpjccpdloaaGreat.Tox Go.Proofs.YtlglbpjccpdloaaGreat.ToxZ Go.Proofs.YtlglbpjccpdloaaGreat.NmLaw Go.Proofs.YtlglbpjccpdloaaGreatW.PrintWords Go.Proofs.YtlglbpjccpdloaaGreatW.PrintLast
theorem rfindQ_l0 (l : List S39) (hm : l.length ≤ 1000000) (s : ByteArray) : ∀ (k i : Nat), l.length - i < k → i ≤ l.length →
    chicaneref14_Find.l0 k l s (i : Int) = some (Lib.idxFromS ((namesP l).drop i) s i) := by
  intro k
  induction k with
  | zero => intro i h; omega
  | succ k ih =>
    intro i h hi
    unfold chicaneref14_Find.l0
    by_cases hl : i < l.length
    · have hd : (namesP l).drop i = l[i].f0 :: (namesP l).drop (i + 1) := by
        rw [namesP, List.drop_eq_getElem_cons (by simpa using hl)]; simp
      rw [if_pos (by omega), if_pos (by omega), rdP_at l i hl, hd, Lib.idxFromS]
      by_cases he : l[i].f0 = s
      · rw [if_pos ((nm_toList_eq_iff _ _).2 he), if_pos he]
      · rw [if_neg (fun h2 => he ((nm_toList_eq_iff _ _).1 h2)), if_neg he, show wrap64 ((i : Int) + 1) = ((i + 1 : Nat) : Int) by rw [w64_in' _ (by omega) (by omega)]; rfl]
        exact ih (i + 1) (by omega) (by omega)
    · rw [if_neg (by omega), List.drop_eq_nil_of_le (by simp [namesP]; omega)]
      rfl
theorem rfindQ_is (l : List S39) (hm : l.length ≤ 1000000) (s : ByteArray) (k : Nat) (hk : l.length < k) : chicaneref14_Find.f k l s = some (place (namesP l) s) := by
  have := rfindQ_l0 l hm s k 0 (by omega) (by omega)
  rw [List.drop_zero] at this
  exact this
theorem one_sameQ (x : S39) (hx : x.f3.length ≤ 12) (k : Nat) (hk : 30 ≤ k) : chicaneref14_Same.f k [x] [x] = some true := by
  rw [rsame_is [x] [x] (by simp) (by intro y hy; rw [List.mem_singleton.1 hy]; omega) k (by simp [needP]; omega), (eqPL_iff _ _).2 rfl]
theorem cut_oneQ {l : List S39} {k : Nat} {x : S39} (hx : l[k]? = some x) : (l.take (k + 1)).drop k = [x] := by
  obtain ⟨hl, he⟩ := List.getElem?_eq_some_iff.1 hx
  rw [List.take_add_one, List.drop_append_of_le_length (by rw [List.length_take]; omega), List.drop_eq_nil_of_le (by rw [List.length_take]; omega), hx]
  rfl
def Others (l a : List S39) (s : ByteArray) : Prop := (namesP a).Nodup ∧ (∀ p ∈ l, p.f0 ≠ s → p ∈ a) ∧ a.length ≤ l.length + 1 ∧ l.length ≤ a.length + 1
theorem right_nodup {l : List S39} (h : rightB l = true) : (namesP l).Nodup := by
  have := right_pair h
  rw [List.nodup_iff_pairwise_ne]
  exact this.imp (fun h => ltS_ne h)
theorem others_self {l : List S39} (h : rightB l = true) (s : ByteArray) : Others l l s := ⟨right_nodup h, fun p hp _ => hp, by omega, by omega⟩
theorem others_change {l : List S39} (h : rightB l = true) (T : S39 → PT) (hT : ∀ x, (T x).1.f0 = x.f0) (s : ByteArray) : Others l (changeOf T l s).1 s := by
  by_cases hp : place (namesP l) s < 0
  · rw [change_no T h hp]; exact others_self h s
  · obtain ⟨k, x, hk, hx, hs⟩ := place_at hp
    rw [change_at T h hk hx]
    refine ⟨by rw [show (l.set k (T x).1, (T x).2).1 = l.set k (T x).1 from rfl, names_set hx (hT x)]; exact right_nodup h, fun p hp2 hne => ?_, by simp, by simp⟩
    obtain ⟨j, hj⟩ := List.mem_iff_getElem?.1 hp2
    have hjk : k ≠ j := by
      rintro rfl
      rw [hx] at hj
      exact hne (by rw [← Option.some.inj hj, hs])
    exact List.mem_iff_getElem?.2 ⟨j, by show (l.set k (T x).1)[j]? = some p; rw [List.getElem?_set, if_neg hjk]; exact hj⟩
theorem others_do {l : List S39} (h : rightB l = true) (k n : Int) (hk : k ≠ 6) (hk6 : 0 ≤ k ∧ k ≤ 6) (s t : ByteArray) (on : Bool) (tx : S24) : Others l (doOf l k n s t on tx).1 s := by
  have hs := others_self h s
  unfold doOf
  split
  · unfold addOf
    rw [if_pos h]
    by_cases h1 : nameOk s = true
    · rw [if_pos h1]
      by_cases h2 : 0 ≤ place (namesP l) s
      · rw [if_pos h2]; exact hs
      · rw [if_neg h2]
        split
        · split
          · exact hs
          · have hp := insP_perm (⟨s, true, n, []⟩ : S39) l
            refine ⟨insP_names h (place_neg.1 (show place (namesP l) s < 0 by omega)), fun p hp2 _ => hp.mem_iff.2 (List.mem_cons_of_mem _ hp2), ?_, ?_⟩
            · rw [show (insP ⟨s, true, n, []⟩ l, (0 : Int)).1.length = _ from hp.length_eq]; simp
            · rw [show (insP ⟨s, true, n, []⟩ l, (0 : Int)).1.length = _ from hp.length_eq]; simp; omega
        · exact hs
    · rw [if_neg h1]; exact hs
  · split
    · unfold dropOf
      rw [if_pos h]
      by_cases hp : place (namesP l) s < 0
      · rw [if_pos hp]; exact hs
      · rw [if_neg hp]
        obtain ⟨j, x, hj, hx, hxs⟩ := place_at hp
        have hjl := (List.getElem?_eq_some_iff.1 hx).1
        rw [hj, Int.toNat_natCast]
        refine ⟨?_, fun p hp2 hne => ?_, ?_, ?_⟩
        · unfold namesP
          exact ((List.eraseIdx_sublist l j).map _).nodup (right_nodup h)
        · obtain ⟨i, hi⟩ := List.mem_iff_getElem?.1 hp2
          refine List.mem_eraseIdx_iff_getElem?.2 ⟨i, ?_, hi⟩
          rintro rfl
          rw [hx] at hi
          exact hne (by rw [← Option.some.inj hi, hxs])
        · have := List.length_eraseIdx_le l j
          show (l.eraseIdx j).length ≤ _
          omega
        · show l.length ≤ (l.eraseIdx j).length + 1
          rw [List.length_eraseIdx_of_lt hjl]; omega
    · split
      · exact others_change h _ (fun x => rfl) s
      · split
        · refine others_change h _ (fun x => ?_) s
          unfold addT
          repeat' split
          all_goals rfl
        · split
          · refine others_change h _ (fun x => ?_) s
            unfold dropT
            split <;> rfl
          · split
            · refine others_change h _ (fun x => ?_) s
              unfold setT
              repeat' split
              all_goals rfl
            · omega
theorem others_at {l a : List S39} {s : ByteArray} (h : Others l a s) {p : S39} (hp : p ∈ l) (hne : p.f0 ≠ s) : ∃ k : Nat, place (namesP a) p.f0 = (k : Int) ∧ a[k]? = some p := by
  obtain ⟨k, hk⟩ := List.mem_iff_getElem?.1 (h.2.1 p hp hne)
  obtain ⟨hkl, hke⟩ := List.getElem?_eq_some_iff.1 hk
  have hkn : k < (namesP a).length := by simpa [namesP] using hkl
  have hg : (namesP a)[k] = p.f0 := by simp [namesP, hke]
  have := nodup_place h.1 k hkn
  rw [hg] at this
  exact ⟨k, this, hk⟩
theorem one_l0 (l a : List S39) (hr : rightB l = true) (ha9 : a.length ≤ 9) (o0 o1 : Int) (o2 o3 : ByteArray) (o4 : Bool) (o5 : ByteArray) (o6 : Int) (o7 : Bool) (o8 o9 o10 : Int) (hO : Others l a o2) : ∀ (n i k : Nat), l.length - i = n → i ≤ l.length → n + 150 ≤ k →
    chicanelaw14_NamesOne.l0 k l a l (l.length : Int) (i : Int) o0 o1 o2 o3 o4 o5 o6 o7 o8 o9 o10 = some true := by
  have h8 := right_len hr
  intro n
  induction n with
  | zero =>
    intro i k hn hi hk
    obtain ⟨k, rfl⟩ : ∃ m, k = m + 1 := ⟨k - 1, by omega⟩
    unfold chicanelaw14_NamesOne.l0
    have w1 : wrap64 ((l.length : Int) + 1) = ((l.length + 1 : Nat) : Int) := by rw [w64_in' _ (by omega) (by omega)]; rfl
    have w2 : wrap64 ((a.length : Int) + 1) = ((a.length + 1 : Nat) : Int) := by rw [w64_in' _ (by omega) (by omega)]; rfl
    have h1 := hO.2.2.1
    have h2 := hO.2.2.2
    rw [if_neg (by omega), alive_is k (by omega), Option.bind_some, if_pos rfl, w1, w2, if_pos (by omega), decide_eq_true (by omega)]
  | succ n ih =>
    intro i k hn hi hk
    obtain ⟨k, rfl⟩ : ∃ m, k = m + 1 := ⟨k - 1, by omega⟩
    have hl : i < l.length := by omega
    have hw : wrap64 ((i : Int) + 1) = ((i + 1 : Nat) : Int) := by rw [w64_in' _ (by omega) (by omega)]; rfl
    have hnext := ih (i + 1) k (by omega) (by omega) (by omega)
    unfold chicanelaw14_NamesOne.l0
    rw [if_pos (by omega), if_pos (by omega), if_pos (by omega), rdP_at l i hl, rfindQ_is a (by omega) _ k (by omega), Option.bind_some, hw]
    by_cases he : l[i].f0 = o2
    · rw [if_pos ((nm_toList_eq_iff _ _).2 he)]
      exact hnext
    · rw [if_neg (fun h2 => he ((nm_toList_eq_iff _ _).1 h2))]
      obtain ⟨p, hp, hx⟩ := others_at hO (List.getElem_mem hl) he
      have hpl := (List.getElem?_eq_some_iff.1 hx).1
      have hw2 : wrap64 ((p : Int) + 1) = ((p + 1 : Nat) : Int) := by rw [w64_in' _ (by omega) (by omega)]; rfl
      have hc := chk_len (h8.2 _ (List.getElem_mem hl))
      rw [hp, hw2, if_neg (by omega), if_pos (by omega), if_pos (by omega), if_pos (by omega), Int.toNat_natCast, Int.toNat_natCast, cut_oneQ hx]
      show (chicaneref14_Same.f k [l[i]] [l[i]]).bind _ = some true
      rw [one_sameQ _ (by omega) k (by omega), Option.bind_some, if_pos rfl]
      exact hnext
theorem one_j0 (l : List S39) (q : Bool) (o0 o1 : Int) (o2 o3 : ByteArray) (o4 : Bool) (o5 : ByteArray) (o6 : Int) (o7 : Bool) (o8 o9 o10 : Int) (hq : q = false → rightB l = true ∧ o0 ≠ 6 ∧ 0 ≤ o0 ∧ o0 ≤ 6) (k : Nat) (hk : 400 ≤ k) :
    chicanelaw14_NamesOne.j0 k l q o0 o1 o2 o3 o4 o5 o6 o7 o8 o9 o10 = some true := by
  obtain ⟨k, rfl⟩ : ∃ m, k = m + 1 := ⟨k - 1, by omega⟩
  cases q with
  | true => simp only [chicanelaw14_NamesOne.j0, alive_is k (by omega), Option.bind_some, if_true]
  | false =>
    obtain ⟨hr, h6, h0, h6'⟩ := hq rfl
    have h8 := (right_len hr).1
    have hlow := low_do hr o0 o1 o2 o3 o4 ⟨o5, o6, o7, o8, o9, o10⟩
    have hO := others_do hr o0 o1 h6 ⟨h0, h6'⟩ o2 o3 o4 ⟨o5, o6, o7, o8, o9, o10⟩
    simp only [chicanelaw14_NamesOne.j0, Bool.false_eq_true, if_false]
    rw [does_is l (by omega) _ (by omega), Option.bind_some]
    exact one_l0 l _ hr hlow.1 _ _ _ _ _ _ _ _ _ _ _ hO l.length 0 k (by omega) (by omega) (by omega)
theorem one_is (l : List S39) (hm : l.length ≤ 9223372036854775807) (hz : ∀ x ∈ l, szP x) (o0 o1 : Int) (o2 o3 : ByteArray) (o4 : Bool) (o5 : ByteArray) (o6 : Int) (o7 : Bool) (o8 o9 o10 : Int) :
    chicanelaw14_NamesOne.f (l.length + 500) l o0 o1 o2 o3 o4 o5 o6 o7 o8 o9 o10 = some true := by
  have ht : chicanelaw14_NamesOne.j0 (l.length + 500) l true o0 o1 o2 o3 o4 o5 o6 o7 o8 o9 o10 = some true := one_j0 l true _ _ _ _ _ _ _ _ _ _ _ (fun h => by cases h) _ (by omega)
  unfold chicanelaw14_NamesOne.f
  rw [few_is l hm _ (by omega), Option.bind_some]
  cases hf : fewB l with
  | false =>
    rw [if_neg Bool.false_ne_true]
    exact ht
  | true =>
    have hl := (few_at hf).1
    have hk : chicanelaw14_kind.f o0 o1 o2 o3 o4 o5 o6 o7 o8 o9 o10 = some true → 0 ≤ o0 ∧ o0 ≤ 6 := by
      intro h
      unfold chicanelaw14_kind.f at h
      split at h
      · split at h
        · omega
        · cases h
      · cases h
    have hk2 : ∃ b, chicanelaw14_kind.f o0 o1 o2 o3 o4 o5 o6 o7 o8 o9 o10 = some b := by
      unfold chicanelaw14_kind.f
      repeat' split
      all_goals exact ⟨_, rfl⟩
    obtain ⟨b, hb⟩ := hk2
    rw [if_pos rfl, hb, Option.bind_some]
    cases b with
    | false =>
      rw [if_neg Bool.false_ne_true]
      exact ht
    | true =>
      have hkk := hk hb
      rw [if_pos rfl, rright_is l (by omega) hz _ (by omega), Option.bind_some]
      cases hr : rightB l with
      | false =>
        rw [if_neg Bool.false_ne_true]
        exact ht
      | true =>
        rw [if_pos rfl]
        exact one_j0 l (o0 == 6) _ _ _ _ _ _ _ _ _ _ _ (fun h => ⟨hr, by simpa using h, hkk.1, hkk.2⟩) _ (by omega)
end Go.Proofs.YtlglbpjccpdloaaGreat.Ext
namespace Go.Proofs.YtlglbpjccpdloaaGreat.namesOne
open Go.ChangeShapes Go.WideShapes Go.ChangeAt Go.RowKit
open Go.ChangeMaps (open_string shut_string)
open Go.Proofs.YtlglbpjccpdloaaGreatW
set_option linter.unusedVariables false
theorem own : ownKnob Tryz.prog.godebug = none := by kernel_rfl
theorem laidOut : laidOutB Tryz.prog = true := by kernel_rfl
set_option maxRecDepth 100000 in
theorem lifted (os : Os) (started : os.Started) (H : Type) (enc : TypeId × Value → H) :
    ReturnsInHanded {} Tryz.checked os 5 .any (Rows.namesOneSpec.pre6 enc Tryz.prog Tryz.f5 Rows.namesOneRow.domain false) (Rows.namesOneSpec.post enc Tryz.prog Tryz.f5 false true false false) := by
  refine returnsInHanded_of_change_sized (C := Tryz.checked) own started (by kernel_rfl) Tryz.func5
    (ChangeSpec.witness6 (enc := enc) (C := Tryz.checked) false ⟨#[], #[.slice none 0 0, .agg #[.int .i64 0, .int .i64 0, .string ByteArray.empty, .string ByteArray.empty, .bool false, .string ByteArray.empty, .int .i64 0, .bool false, .int .i64 0, .int .i64 0, .int .i64 0]], []⟩ 8 (by kernel_rfl) (by kernel_rfl) (by kernel_rfl) (by kernel_rfl)) ?_
  intro W base args ds gs before hval0 hW hcnd hsz0 _
  have hsz : (DataW.weightsEach Tryz.prog (Tryz.f5.params.toList ++ Rows.namesOneSpec.plain.varTypes Tryz.prog) (ds ++ gs)).all (· ≤ reachBytes) = true := hsz0
  have hval : ∀ (j : Nat) t v, Tryz.f5.params[j]? = some t → args[j]? = some v → Value.okWide Tryz.prog W .any base t v := hval0
  have hW' := hW
  obtain ⟨p, q, hA0, hV, rfl, hfz, hnd⟩ := hW
  have hA : DataW.TrodAll enc Tryz.prog W 0 (fun _ => true) true Tryz.f5.params.toList args.toList ds p := hA0
  rw [Tryz.params5] at hA hval hsz
  obtain ⟨v0, vs0, d0, ds0, p0, q0, hargs, rfl, rfl, h0, r0'⟩ := trodAll_cons hA
  obtain ⟨v1, vs1, d1, ds1, p1, q1, rfl, rfl, rfl, h1, r1'⟩ := trodAll_cons r0'
  obtain ⟨rfl, rfl, rfl⟩ := trodAll_nil r1'
  obtain rfl : args = #[v0, v1] := by cases args; simp_all
  obtain ⟨rfl, rfl⟩ := trodVars_none hV
  have k0 := h0
  have lt0 : ∀ x ∈ p0, x.block < W.heap.size := by obtain ⟨m, hm⟩ := k0; exact DataW.trod_lt m _ _ _ hm
  obtain ⟨Ax0, len0, cap0, hv0⟩ := okWide_slice Tryz.underlying22 (hval 0 22 v0 rfl rfl)
  obtain ⟨A0, cp0, l0, rfl, hc0, r0, m0, e0⟩ := Arg.proxies_arg h0 ⟨_, _, _, hv0⟩
  have k1 := h1
  have lt1 : ∀ x ∈ p1, x.block < W.heap.size := by obtain ⟨m, hm⟩ := k1; exact DataW.trod_lt m _ _ _ hm
  obtain ⟨c1, rfl, _⟩ := okWide_struct Tryz.underlying26 (hval 1 26 v1 rfl rfl)
  obtain ⟨o10, o11, o12, o13, o14, t1, rfl, e1⟩ := Arg.op_arg h1
  clear hA0 hval0 hsz0 hsz
  refine (PNamA.chicanelaw14_NamesOne.calls (l0.length + 500) (fun k => k < W.heap.size) A0 cp0 l0 o10 o11 o12 o13 o14 t1.f0 t1.f1 t1.f2 t1.f3 t1.f4 t1.f5 true W (PrintWords.Kd.V_mk hc0 (PrintWords.Kd.C_F Arg.heapP r0)) rfl (Ext.one_is l0 m0 (fun x hx => ⟨(e0 x hx).1, fun t ht => ((e0 x hx).2.2 t ht).1⟩) o10 o11 o12 o13 o14 t1.f0 t1.f1 t1.f2 t1.f3 t1.f4 t1.f5)).mono fun e W' ⟨he, bel⟩ => ?_
  subst he
  exact ⟨_, rfl, _, _, _, [], _, [], hW', trodAll_mk1 (shut_bool Tryz.underlying4 _), (trodAll_cons_mk (Below.trod laidOut (by kernel_rfl) (of_decide_eq_true (by kernel_rfl)) k0 bel lt0) (trodAll_cons_mk (Below.trod laidOut (by kernel_rfl) (of_decide_eq_true (by kernel_rfl)) k1 bel lt1) trodAll_mk0)), rfl, bel.frame _, fun h => by cases h⟩
theorem over : Rows.namesOneRow.holds Tryz.pinned (OpenSpec.ofChange Rows.namesOneSpec) :=
  OpenClaim.holds_of_wide 5 Tryz.f5 rfl rfl rfl rfl rfl rfl rfl ⟨rfl, rfl, rfl, rfl, rfl⟩ rfl rfl rfl rfl rfl (by kernel_rfl) Tryz.func5 (by kernel_rfl)
    (of_decide_eq_true (by kernel_rfl)) (by unfold Func.isWrapper; first | (rw [if_pos (by decide +kernel)]; kernel_rfl) | (rw [if_neg (by decide +kernel)]; exact ⟨rfl, rfl⟩))
    (fun os started H enc _ => lifted os started H enc)
theorem proved : Rows.NamesOneSaid := over
end Go.Proofs.YtlglbpjccpdloaaGreat.namesOne
namespace Go.Proofs.YtlglbpjccpdloaaGreat
theorem namesOne_holds : Rows.NamesOneSaid := namesOne.proved
end Go.Proofs.YtlglbpjccpdloaaGreat
