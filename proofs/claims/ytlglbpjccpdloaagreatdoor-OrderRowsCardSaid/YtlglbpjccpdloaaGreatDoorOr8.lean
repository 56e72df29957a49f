/- Gathered by a program of this session (shake.py): what the claim's theorem needs. -/
import Derived.Test.YtlglbpjccpdloaaGreatDoorOr6
import Derived.Test.YtlglbpjccpdloaaGreatDoorOr7
set_option linter.unusedVariables false
set_option linter.unusedSimpArgs false
namespace Go.Proofs.YtlglbpjccpdloaaGreatDoor.Ext
end Go.Proofs.YtlglbpjccpdloaaGreatDoor.Ext
namespace Go.Proofs.YtlglbpjccpdloaaGreatDoor.POrdB
end Go.Proofs.YtlglbpjccpdloaaGreatDoor.POrdB
namespace Go.Proofs.YtlglbpjccpdloaaGreatDoor.PWrdA
end Go.Proofs.YtlglbpjccpdloaaGreatDoor.PWrdA
namespace Go.Proofs.YtlglbpjccpdloaaGreatDoor.Tox
end Go.Proofs.YtlglbpjccpdloaaGreatDoor.Tox
namespace Go.Proofs.YtlglbpjccpdloaaGreatDoor.ToxPlain
end Go.Proofs.YtlglbpjccpdloaaGreatDoor.ToxPlain
namespace Go.Proofs.YtlglbpjccpdloaaGreatDoor.ToxRef
end Go.Proofs.YtlglbpjccpdloaaGreatDoor.ToxRef
namespace Go.Proofs.YtlglbpjccpdloaaGreatDoor.ToxZ
end Go.Proofs.YtlglbpjccpdloaaGreatDoor.ToxZ
namespace Go.Proofs.YtlglbpjccpdloaaGreatDoorW.PrintLast
end Go.Proofs.YtlglbpjccpdloaaGreatDoorW.PrintLast
namespace Go.Proofs.YtlglbpjccpdloaaGreatDoorW.PrintMore
end Go.Proofs.YtlglbpjccpdloaaGreatDoorW.PrintMore
namespace Go.Proofs.YtlglbpjccpdloaaGreatDoorW.PrintWords
end Go.Proofs.YtlglbpjccpdloaaGreatDoorW.PrintWords
namespace Go.Proofs.YtlglbpjccpdloaaGreatDoor.POrdB
open Go.Proofs.YtlglbpjccpdloaaGreatDoor.Ext Go.Proofs.YtlglbpjccpdloaaGreatDoor.ToxZ Go.Proofs.YtlglbpjccpdloaaGreatDoor.PWrdA Go.RowKit Go.Proofs.YtlglbpjccpdloaaGreatDoorW.PrintWords Go.Proofs.YtlglbpjccpdloaaGreatDoorW.PrintLast Go.Proofs.YtlglbpjccpdloaaGreatDoorW.PrintMore
attribute [local go_sem] max2_int min2_int max_two min_two max_three min_three max_four min_four   -- for this text's walks alone
set_option linter.unusedVariables false
set_option linter.unusedSimpArgs false
open Go in
private theorem yield_one {P : Program} {ops : Array Oper} {Q : Exit → Act → World → Prop} {md : Region.Mode} {S : World → Prop} {ds : List Nat} {i : Nat} {N : Option Tmp} {oi : Oper} {v : Value} {fuel : Nat} {l : Array Bool} {a : Act} {W : World} (l' : Array Bool)
  (hi : ops[i]? = some oi) (hN : oi.dst = N) (hc : readyB md ops l l' i = true) (hd : i ∉ ds) (hy : YieldsIf P ops (fun w' => w' = W) oi v a) (hS : S W) {a' : Act} (ha : a.put N v = a')
  (h : wpAnyLast P md ops Q S ds fuel l' a' W) : wpAnyLast P md ops Q S ds (fuel + 1) l a W := by
 subst ha
 subst hN
 simp only [readyB, Bool.and_eq_true, beq_iff_eq] at hc
 obtain ⟨h1, h2⟩ := hc
 subst h2
 refine wpAnyLast_all h1 (by simp) (fun j hj => ?_)
 rw [List.mem_singleton.1 hj]
 exact hy.wpOp hi rfl ⟨fun _ _ => hS, h⟩
mutual
def order_Words.j0 : Nat → Bool → Int → ByteArray → ByteArray → Int → ByteArray → Int → Bool → Int → Int → Int → Option (List ByteArray)
 | 0, _, _, _, _, _, _, _, _, _, _, _ => none
 | k + 1, x22, x104000, x104001, x104002, x104003, x104004, x104005, x104006, x104007, x104008, x104009 => if x22 = true then (some ([] : List ByteArray)) else ((order_Verbs.f).bind fun t106 => (if 0 ≤ (wrap64 (x104000 - 1)) then (if (wrap64 (x104000 - 1)) < (t106.length : Int) then ((strings_Fields.f (rdOf ByteArray.empty t106 (wrap64 (x104000 - 1)))).bind fun t110 => ((order_noProxy.f x104000).bind fun t113 => (if t113 = true then (order_Words.j1 k t110 x104000 x104001 x104002 x104003 x104004 x104005 x104006 x104007 x104008 x104009) else (if t110.length < 8796093022208 then (order_Words.j1 k (t110 ++ [x104001]) x104000 x104001 x104002 x104003 x104004 x104005 x104006 x104007 x104008 x104009) else (none))))) else (none)) else (none)))
def order_Words.j1 : Nat → List ByteArray → Int → ByteArray → ByteArray → Int → ByteArray → Int → Bool → Int → Int → Int → Option (List ByteArray)
 | 0, _, _, _, _, _, _, _, _, _, _, _ => none
 | k + 1, x3, x104000, x104001, x104002, x104003, x104004, x104005, x104006, x104007, x104008, x104009 => if x104000 = 1 then ((tick_Text.f x104003).bind fun t117 => (if x3.length < 8796093022208 then (some (x3 ++ [t117])) else (none))) else (if x104000 = 6 then (if x3.length < 8796093022208 then (some (x3 ++ [x104002])) else (none)) else ((order_toxical.f x104000).bind fun t124 => (if t124 = true then ((toxic_Text.f x104004 x104005 x104006 x104007 x104008 x104009).bind fun t125 => ((strings_Fields.f t125).bind fun t126 => (if x3.length + t126.length < 8796093022208 then (some (x3 ++ t126)) else (none)))) else (some x3))))
end
def order_Words.f (k : Nat) (a0_0 : Int) (a0_1 : ByteArray) (a0_2 : ByteArray) (a0_3 : Int) (a0_4 : ByteArray) (a0_5 : Int) (a0_6 : Bool) (a0_7 : Int) (a0_8 : Int) (a0_9 : Int) : Option (List ByteArray) := if a0_0 < 1 then (order_Words.j0 k true a0_0 a0_1 a0_2 a0_3 a0_4 a0_5 a0_6 a0_7 a0_8 a0_9) else (if a0_0 > 10 then (order_Words.j0 k true a0_0 a0_1 a0_2 a0_3 a0_4 a0_5 a0_6 a0_7 a0_8 a0_9) else ((order_toxical.f a0_0).bind fun t104 => (if t104 = true then ((toxic_Right.f a0_4 a0_5 a0_6 a0_7 a0_8 a0_9).bind fun t105 => (order_Words.j0 k (!t105) a0_0 a0_1 a0_2 a0_3 a0_4 a0_5 a0_6 a0_7 a0_8 a0_9)) else (order_Words.j0 k false a0_0 a0_1 a0_2 a0_3 a0_4 a0_5 a0_6 a0_7 a0_8 a0_9))))
theorem order_Words.mono_l : ∀ k, (∀ y0 y1 y2 y3 y4 y5 y6 y7 y8 y9 y10, LeO (order_Words.j0 k y0 y1 y2 y3 y4 y5 y6 y7 y8 y9 y10) (order_Words.j0 (k + 1) y0 y1 y2 y3 y4 y5 y6 y7 y8 y9 y10)) ∧ (∀ y0 y1 y2 y3 y4 y5 y6 y7 y8 y9 y10, LeO (order_Words.j1 k y0 y1 y2 y3 y4 y5 y6 y7 y8 y9 y10) (order_Words.j1 (k + 1) y0 y1 y2 y3 y4 y5 y6 y7 y8 y9 y10))
 | 0 => ⟨fun _ _ _ _ _ _ _ _ _ _ _ r h => by simp [order_Words.j0] at h, fun _ _ _ _ _ _ _ _ _ _ _ r h => by simp [order_Words.j1] at h⟩
 | k + 1 => by
  obtain ⟨ih0, ih1⟩ := order_Words.mono_l k
  refine ⟨?_, ?_⟩
  ·intro y0 y1 y2 y3 y4 y5 y6 y7 y8 y9 y10
   unfold order_Words.j0
   repeat' first
   | (with_reducible exact ih0 _ _ _ _ _ _ _ _ _ _ _)
   | (with_reducible exact ih1 _ _ _ _ _ _ _ _ _ _ _)
   | (with_reducible exact LeO.refl _)
   | (with_reducible exact LeO.none _)
   | (with_reducible refine LeO.ite ?_ ?_)
   | (with_reducible refine LeO.bind ?_ (fun _ => ?_))
   | exact ih0 _ _ _ _ _ _ _ _ _ _ _
   | exact ih1 _ _ _ _ _ _ _ _ _ _ _
   | exact LeO.none _
   | refine LeO.ite ?_ ?_
   | refine LeO.bind ?_ (fun _ => ?_)
  ·intro y0 y1 y2 y3 y4 y5 y6 y7 y8 y9 y10
   unfold order_Words.j1
   repeat' first
   | (with_reducible exact ih0 _ _ _ _ _ _ _ _ _ _ _)
   | (with_reducible exact ih1 _ _ _ _ _ _ _ _ _ _ _)
   | (with_reducible exact LeO.refl _)
   | (with_reducible exact LeO.none _)
   | (with_reducible refine LeO.ite ?_ ?_)
   | (with_reducible refine LeO.bind ?_ (fun _ => ?_))
   | exact ih0 _ _ _ _ _ _ _ _ _ _ _
   | exact ih1 _ _ _ _ _ _ _ _ _ _ _
   | exact LeO.none _
   | refine LeO.ite ?_ ?_
   | refine LeO.bind ?_ (fun _ => ?_)
theorem order_Words.mono : ∀ a0 a1 a2 a3 a4 a5 a6 a7 a8 a9 k, LeO (order_Words.f k a0 a1 a2 a3 a4 a5 a6 a7 a8 a9) (order_Words.f (k + 1) a0 a1 a2 a3 a4 a5 a6 a7 a8 a9) := by
 intro a0 a1 a2 a3 a4 a5 a6 a7 a8 a9 k
 obtain ⟨ih0, ih1⟩ := order_Words.mono_l k
 unfold order_Words.f
 repeat' first
   | (with_reducible exact ih0 _ _ _ _ _ _ _ _ _ _ _)
   | (with_reducible exact ih1 _ _ _ _ _ _ _ _ _ _ _)
   | (with_reducible exact LeO.refl _)
   | (with_reducible exact LeO.none _)
   | (with_reducible refine LeO.ite ?_ ?_)
   | (with_reducible refine LeO.bind ?_ (fun _ => ?_))
   | exact ih0 _ _ _ _ _ _ _ _ _ _ _
   | exact ih1 _ _ _ _ _ _ _ _ _ _ _
   | exact LeO.none _
   | refine LeO.ite ?_ ?_
   | refine LeO.bind ?_ (fun _ => ?_)
def order_Words.T3 : Bool × List (List Nat × List Nat) := (true, [([], []), ([], []), ([1], [1]), ([2], [2]), ([0, 3], [0, 3]), ([4], [4]), ([5, 0], [5]), ([6, 6, 0, 1, 2, 3, 4, 5, 6], [6])])
def order_Words.B3 : List Nat := [0, 0, 2, 6, 15, 31, 63, 127]
theorem order_Words.tab3 : rtab .any (opsOf Tryz.f12 3) = order_Words.T3 := by kernel_rfl
theorem order_Words.bits3 : waitsOk order_Words.T3.2 order_Words.B3 = true := by kernel_rfl
set_option maxHeartbeats 8000000 in
set_option maxRecDepth 100000 in
theorem order_Words.calls (k : Nat) (a0_0 : Int) (a0_1 : ByteArray) (a0_2 : ByteArray) (a0_3 : Int) (a0_4 : ByteArray) (a0_5 : Int) (a0_6 : Bool) (a0_7 : Int) (a0_8 : Int) (a0_9 : Int) (r : List ByteArray) (w : World) (hT : Aside0 (Ext.Tab w)) (h : order_Words.f k a0_0 a0_1 a0_2 a0_3 a0_4 a0_5 a0_6 a0_7 a0_8 a0_9 = some r) :
  Calls Tryz.prog 12 #[.agg #[.int .i64 a0_0, .string a0_1, .string a0_2, .int .i64 a0_3, .string a0_4, .int .i64 a0_5, .bool a0_6, .int .i64 a0_7, .int .i64 a0_8, .int .i64 a0_9]] w fun e w' => ∃ v0_ : Value, e = .returned (v0_) ∧ Kd.R Kd.string 9 w' w.heap.size (fun _ => True) v0_ r ∧ Below w.heap.size w w' := by
 have hu27 := Tryz.underlying27
 have hu25 := Tryz.underlying25
 have HB := Aside0.mk (Below.refl w.heap.size w)
 have H : (if a0_0 < 1 then (order_Words.j0 k true a0_0 a0_1 a0_2 a0_3 a0_4 a0_5 a0_6 a0_7 a0_8 a0_9) else (if a0_0 > 10 then (order_Words.j0 k true a0_0 a0_1 a0_2 a0_3 a0_4 a0_5 a0_6 a0_7 a0_8 a0_9) else ((order_toxical.f a0_0).bind fun t104 => (if t104 = true then ((toxic_Right.f a0_4 a0_5 a0_6 a0_7 a0_8 a0_9).bind fun t105 => (order_Words.j0 k (!t105) a0_0 a0_1 a0_2 a0_3 a0_4 a0_5 a0_6 a0_7 a0_8 a0_9)) else (order_Words.j0 k false a0_0 a0_1 a0_2 a0_3 a0_4 a0_5 a0_6 a0_7 a0_8 a0_9))))) = some r := h
 clear h
 have HC2 := Aside0.mk H
 clear H
 go_enter Tryz.func12, Tryz.ntmps12
 go_upto_region 1 with (first | ((with_reducible refine gate_dst (N := 1) rfl ?_); refine box_event ?hg (N := 1) ?hd (cs := #[.int .i64 a0_0, .string a0_1, .string a0_2, .int .i64 a0_3, .string a0_4, .int .i64 a0_5, .bool a0_6, .int .i64 a0_7, .int .i64 a0_8, .int .i64 a0_9]) (t := 27) ?hr ?_; (case hd => rfl); (case hg => rfl); (case hr => first | (go_simp; done) | (go_simp; rfl)); intro gb103 hg w3 hbox hb; have n0_ := Aside0.mk (below_step (by repeat (first | (with_reducible first | exact HB.out | apply below_alloc | apply pw_below_drewN | apply below_drew1) | exact HB.out)) hb); have n1_ := Aside0.mk (hbox); have n2_ := Aside0.mk ((by rw [hg]; exact (below_size (by repeat (first | (with_reducible first | exact HB.out | apply below_alloc | apply pw_below_drewN | apply below_drew1) | exact HB.out))) : w.heap.size ≤ gb103)); have n3_ := Aside0.mk ((by rw [hg]; exact (below_size (by repeat (first | (with_reducible first | exact HB.out | apply below_alloc | apply pw_below_drewN | apply below_drew1) | exact HB.out))) : w.heap.size ≤ gb103)); clear HB; have HB := n0_; have BK103 := n1_; have GW103 := n2_; have GE103 := n3_; clear n0_ n1_ n2_ n3_; clear hb hbox hg))
 (try simp only [Act.put, List.setIfInBounds_toArray, List.set_cons_zero, List.set_cons_succ])
 go_cut [22] (fun v22 wc => ∃ (kq : Nat) (x22_1 : Bool), v22 = .bool x22_1 ∧ Aside0 (order_Words.j0 kq x22_1 a0_0 a0_1 a0_2 a0_3 a0_4 a0_5 a0_6 a0_7 a0_8 a0_9 = some r) ∧ Aside0 (kq ≤ k) ∧ Aside0 (wc.heap[gb103]? = some (.cells #[.int .i64 a0_0, .string a0_1, .string a0_2, .int .i64 a0_3, .string a0_4, .int .i64 a0_5, .bool a0_6, .int .i64 a0_7, .int .i64 a0_8, .int .i64 a0_9] 27 (0, 0))) ∧ Aside0 (Below w.heap.size w wc))
 case first =>
  have H := HC2.out
  clear HC2
  by_cases c4 : a0_0 < 1
  ·rw [if_pos c4] at H
   have c4b0 : decide (a0_0 < 1) = true := decide_eq_true c4
   clear c4
   (first | rw [c4b0] | (simp only [i64_w, i32_w]; rw [c4b0]) | skip)
   have H' := Aside0.mk H
   clear H
   have hcz5_0 : w3.cell? ⟨gb103, 0, none⟩ = some (.int .i64 a0_0) := (blk_cell BK103.out 0).trans rfl
   have hcz5_1 : w3.cell? ⟨gb103, 1, none⟩ = some (.string a0_1) := (blk_cell BK103.out 1).trans rfl
   have hcz5_2 : w3.cell? ⟨gb103, 2, none⟩ = some (.string a0_2) := (blk_cell BK103.out 2).trans rfl
   have hcz5_3 : w3.cell? ⟨gb103, 3, none⟩ = some (.int .i64 a0_3) := (blk_cell BK103.out 3).trans rfl
   have hcz5_4 : w3.cell? ⟨gb103, 4, none⟩ = some (.string a0_4) := (blk_cell BK103.out 4).trans rfl
   have hcz5_5 : w3.cell? ⟨gb103, 5, none⟩ = some (.int .i64 a0_5) := (blk_cell BK103.out 5).trans rfl
   have hcz5_6 : w3.cell? ⟨gb103, 6, none⟩ = some (.bool a0_6) := (blk_cell BK103.out 6).trans rfl
   have hcz5_7 : w3.cell? ⟨gb103, 7, none⟩ = some (.int .i64 a0_7) := (blk_cell BK103.out 7).trans rfl
   have hcz5_8 : w3.cell? ⟨gb103, 8, none⟩ = some (.int .i64 a0_8) := (blk_cell BK103.out 8).trans rfl
   have hcz5_9 : w3.cell? ⟨gb103, 9, none⟩ = some (.int .i64 a0_9) := (blk_cell BK103.out 9).trans rfl
   have hfz5_0 := blk_frozen BK103.out 0
   have hfz5_1 := blk_frozen BK103.out 1
   have hfz5_2 := blk_frozen BK103.out 2
   have hfz5_3 := blk_frozen BK103.out 3
   have hfz5_4 := blk_frozen BK103.out 4
   have hfz5_5 := blk_frozen BK103.out 5
   have hfz5_6 := blk_frozen BK103.out 6
   have hfz5_7 := blk_frozen BK103.out 7
   have hfz5_8 := blk_frozen BK103.out 8
   have hfz5_9 := blk_frozen BK103.out 9
   go_wp2
   go_meet
   case rel => exact ⟨_, (true), (by first | rfl | (simp; done) | (simp [*]; done)), H', ⟨by first | omega | exact Nat.le_refl _⟩, ⟨by (with_reducible repeat (first | refine blk_drewN ?_ _ | refine blk_drew ?_ | refine blk_alloc ?_ _)); exact BK103.out⟩, ⟨by repeat (first | (with_reducible first | exact HB.out | apply below_alloc | apply pw_below_drewN | apply below_drew1 | refine below_set ?_ GE103.out) | exact HB.out)⟩⟩
  ·rw [if_neg c4] at H
   have c4b0 : decide (a0_0 < 1) = false := decide_eq_false c4
   clear c4
   (first | rw [c4b0] | (simp only [i64_w, i32_w]; rw [c4b0]) | skip)
   by_cases c6 : a0_0 > 10
   ·rw [if_pos c6] at H
    have c6b0 : decide (10 < a0_0) = true := decide_eq_true c6
    clear c6
    have H' := Aside0.mk H
    clear H
    have hcz7_0 : w3.cell? ⟨gb103, 0, none⟩ = some (.int .i64 a0_0) := (blk_cell BK103.out 0).trans rfl
    have hcz7_1 : w3.cell? ⟨gb103, 1, none⟩ = some (.string a0_1) := (blk_cell BK103.out 1).trans rfl
    have hcz7_2 : w3.cell? ⟨gb103, 2, none⟩ = some (.string a0_2) := (blk_cell BK103.out 2).trans rfl
    have hcz7_3 : w3.cell? ⟨gb103, 3, none⟩ = some (.int .i64 a0_3) := (blk_cell BK103.out 3).trans rfl
    have hcz7_4 : w3.cell? ⟨gb103, 4, none⟩ = some (.string a0_4) := (blk_cell BK103.out 4).trans rfl
    have hcz7_5 : w3.cell? ⟨gb103, 5, none⟩ = some (.int .i64 a0_5) := (blk_cell BK103.out 5).trans rfl
    have hcz7_6 : w3.cell? ⟨gb103, 6, none⟩ = some (.bool a0_6) := (blk_cell BK103.out 6).trans rfl
    have hcz7_7 : w3.cell? ⟨gb103, 7, none⟩ = some (.int .i64 a0_7) := (blk_cell BK103.out 7).trans rfl
    have hcz7_8 : w3.cell? ⟨gb103, 8, none⟩ = some (.int .i64 a0_8) := (blk_cell BK103.out 8).trans rfl
    have hcz7_9 : w3.cell? ⟨gb103, 9, none⟩ = some (.int .i64 a0_9) := (blk_cell BK103.out 9).trans rfl
    have hfz7_0 := blk_frozen BK103.out 0
    have hfz7_1 := blk_frozen BK103.out 1
    have hfz7_2 := blk_frozen BK103.out 2
    have hfz7_3 := blk_frozen BK103.out 3
    have hfz7_4 := blk_frozen BK103.out 4
    have hfz7_5 := blk_frozen BK103.out 5
    have hfz7_6 := blk_frozen BK103.out 6
    have hfz7_7 := blk_frozen BK103.out 7
    have hfz7_8 := blk_frozen BK103.out 8
    have hfz7_9 := blk_frozen BK103.out 9
    go_wp2
    go_meet
    case rel => exact ⟨_, (true), (by first | rfl | (simp; done) | (simp [*]; done)), H', ⟨by first | omega | exact Nat.le_refl _⟩, ⟨by (with_reducible repeat (first | refine blk_drewN ?_ _ | refine blk_drew ?_ | refine blk_alloc ?_ _)); exact BK103.out⟩, ⟨by repeat (first | (with_reducible first | exact HB.out | apply below_alloc | apply pw_below_drewN | apply below_drew1 | refine below_set ?_ GE103.out) | exact HB.out)⟩⟩
   ·rw [if_neg c6] at H
    have c6b0 : decide (10 < a0_0) = false := decide_eq_false c6
    clear c6
    replace H := Option.bind_eq_some_iff.mp H
    obtain ⟨t104, A80, H⟩ := H
    replace H : (if t104 = true then ((toxic_Right.f a0_4 a0_5 a0_6 a0_7 a0_8 a0_9).bind fun t105 => (order_Words.j0 k (!t105) a0_0 a0_1 a0_2 a0_3 a0_4 a0_5 a0_6 a0_7 a0_8 a0_9)) else (order_Words.j0 k false a0_0 a0_1 a0_2 a0_3 a0_4 a0_5 a0_6 a0_7 a0_8 a0_9)) = some r := H
    have A8 := Aside0.mk A80
    clear A80
    by_cases c9 : t104 = true
    ·subst c9
     have H1 : ((toxic_Right.f a0_4 a0_5 a0_6 a0_7 a0_8 a0_9).bind fun t105 => (order_Words.j0 k (!t105) a0_0 a0_1 a0_2 a0_3 a0_4 a0_5 a0_6 a0_7 a0_8 a0_9)) = some r := by rw [if_pos rfl] at H; exact H
     clear H
     have H := H1
     clear H1
     replace H := Option.bind_eq_some_iff.mp H
     obtain ⟨t105, A100, H⟩ := H
     replace H : (order_Words.j0 k (!t105) a0_0 a0_1 a0_2 a0_3 a0_4 a0_5 a0_6 a0_7 a0_8 a0_9) = some r := H
     have A10 := Aside0.mk A100
     clear A100
     have H' := Aside0.mk H
     clear H
     have hcz11_0 : w3.cell? ⟨gb103, 0, none⟩ = some (.int .i64 a0_0) := (blk_cell BK103.out 0).trans rfl
     have hcz11_1 : w3.cell? ⟨gb103, 1, none⟩ = some (.string a0_1) := (blk_cell BK103.out 1).trans rfl
     have hcz11_2 : w3.cell? ⟨gb103, 2, none⟩ = some (.string a0_2) := (blk_cell BK103.out 2).trans rfl
     have hcz11_3 : w3.cell? ⟨gb103, 3, none⟩ = some (.int .i64 a0_3) := (blk_cell BK103.out 3).trans rfl
     have hcz11_4 : w3.cell? ⟨gb103, 4, none⟩ = some (.string a0_4) := (blk_cell BK103.out 4).trans rfl
     have hcz11_5 : w3.cell? ⟨gb103, 5, none⟩ = some (.int .i64 a0_5) := (blk_cell BK103.out 5).trans rfl
     have hcz11_6 : w3.cell? ⟨gb103, 6, none⟩ = some (.bool a0_6) := (blk_cell BK103.out 6).trans rfl
     have hcz11_7 : w3.cell? ⟨gb103, 7, none⟩ = some (.int .i64 a0_7) := (blk_cell BK103.out 7).trans rfl
     have hcz11_8 : w3.cell? ⟨gb103, 8, none⟩ = some (.int .i64 a0_8) := (blk_cell BK103.out 8).trans rfl
     have hcz11_9 : w3.cell? ⟨gb103, 9, none⟩ = some (.int .i64 a0_9) := (blk_cell BK103.out 9).trans rfl
     have hfz11_0 := blk_frozen BK103.out 0
     have hfz11_1 := blk_frozen BK103.out 1
     have hfz11_2 := blk_frozen BK103.out 2
     have hfz11_3 := blk_frozen BK103.out 3
     have hfz11_4 := blk_frozen BK103.out 4
     have hfz11_5 := blk_frozen BK103.out 5
     have hfz11_6 := blk_frozen BK103.out 6
     have hfz11_7 := blk_frozen BK103.out 7
     have hfz11_8 := blk_frozen BK103.out 8
     have hfz11_9 := blk_frozen BK103.out 9
     go_wp2_with (first | (go_at_call 28; (with_reducible refine (order_toxical.calls a0_0 true _ A8.out).mono ?_); rintro e w' ⟨rfl, ⟨nd, rfl⟩⟩) | (go_at_call 34; (with_reducible refine (toxic_Right.calls a0_4 a0_5 a0_6 a0_7 a0_8 a0_9 t105 _ A10.out).mono ?_); rintro e w12 ⟨rfl, hb⟩; have n0_ := Aside0.mk (blk_below (g := gb103) (o := .cells #[.int .i64 a0_0, .string a0_1, .string a0_2, .int .i64 a0_3, .string a0_4, .int .i64 a0_5, .bool a0_6, .int .i64 a0_7, .int .i64 a0_8, .int .i64 a0_9] 27 (0, 0)) (by (with_reducible repeat (first | refine blk_drewN ?_ _ | refine blk_drew ?_ | refine blk_alloc ?_ _)); exact BK103.out) hb); have n1_ := Aside0.mk (below_step (by repeat (first | (with_reducible first | exact HB.out | apply below_alloc | apply pw_below_drewN | apply below_drew1 | refine below_set ?_ GE103.out) | exact HB.out)) hb); clear BK103; clear HB; have BK103 := n0_; have HB := n1_; clear n0_ n1_; (try clear hb); (try clear hb2); (try clear hk); (try clear hi)))
     go_meet
     case rel => exact ⟨_, (!t105), (by first | rfl | (simp; done) | (simp [*]; done)), H', ⟨by first | omega | exact Nat.le_refl _⟩, ⟨by (with_reducible repeat (first | refine blk_drewN ?_ _ | refine blk_drew ?_ | refine blk_alloc ?_ _)); exact BK103.out⟩, ⟨by repeat (first | (with_reducible first | exact HB.out | apply below_alloc | apply pw_below_drewN | apply below_drew1 | refine below_set ?_ GE103.out) | exact HB.out)⟩⟩
    ·replace c9 := Bool.eq_false_iff.mpr c9
     subst c9
     have H1 : (order_Words.j0 k false a0_0 a0_1 a0_2 a0_3 a0_4 a0_5 a0_6 a0_7 a0_8 a0_9) = some r := by rw [if_neg (show ¬ (false = true) by decide)] at H; exact H
     clear H
     have H := H1
     clear H1
     have H' := Aside0.mk H
     clear H
     have hcz13_0 : w3.cell? ⟨gb103, 0, none⟩ = some (.int .i64 a0_0) := (blk_cell BK103.out 0).trans rfl
     have hcz13_1 : w3.cell? ⟨gb103, 1, none⟩ = some (.string a0_1) := (blk_cell BK103.out 1).trans rfl
     have hcz13_2 : w3.cell? ⟨gb103, 2, none⟩ = some (.string a0_2) := (blk_cell BK103.out 2).trans rfl
     have hcz13_3 : w3.cell? ⟨gb103, 3, none⟩ = some (.int .i64 a0_3) := (blk_cell BK103.out 3).trans rfl
     have hcz13_4 : w3.cell? ⟨gb103, 4, none⟩ = some (.string a0_4) := (blk_cell BK103.out 4).trans rfl
     have hcz13_5 : w3.cell? ⟨gb103, 5, none⟩ = some (.int .i64 a0_5) := (blk_cell BK103.out 5).trans rfl
     have hcz13_6 : w3.cell? ⟨gb103, 6, none⟩ = some (.bool a0_6) := (blk_cell BK103.out 6).trans rfl
     have hcz13_7 : w3.cell? ⟨gb103, 7, none⟩ = some (.int .i64 a0_7) := (blk_cell BK103.out 7).trans rfl
     have hcz13_8 : w3.cell? ⟨gb103, 8, none⟩ = some (.int .i64 a0_8) := (blk_cell BK103.out 8).trans rfl
     have hcz13_9 : w3.cell? ⟨gb103, 9, none⟩ = some (.int .i64 a0_9) := (blk_cell BK103.out 9).trans rfl
     have hfz13_0 := blk_frozen BK103.out 0
     have hfz13_1 := blk_frozen BK103.out 1
     have hfz13_2 := blk_frozen BK103.out 2
     have hfz13_3 := blk_frozen BK103.out 3
     have hfz13_4 := blk_frozen BK103.out 4
     have hfz13_5 := blk_frozen BK103.out 5
     have hfz13_6 := blk_frozen BK103.out 6
     have hfz13_7 := blk_frozen BK103.out 7
     have hfz13_8 := blk_frozen BK103.out 8
     have hfz13_9 := blk_frozen BK103.out 9
     go_wp2_with (first | (go_at_call 28; (with_reducible refine (order_toxical.calls a0_0 false _ A8.out).mono ?_); rintro e w' ⟨rfl, ⟨nd, rfl⟩⟩))
     go_meet
     case rel => exact ⟨_, (false), (by first | rfl | (simp; done) | (simp [*]; done)), H', ⟨by first | omega | exact Nat.le_refl _⟩, ⟨by (with_reducible repeat (first | refine blk_drewN ?_ _ | refine blk_drew ?_ | refine blk_alloc ?_ _)); exact BK103.out⟩, ⟨by repeat (first | (with_reducible first | exact HB.out | apply below_alloc | apply pw_below_drewN | apply below_drew1 | refine below_set ?_ GE103.out) | exact HB.out)⟩⟩
 case rest =>
  clear HC2
  try clear c1
  try clear p2
  try clear c4
  try clear c4b0
  try clear c6
  try clear c6b0
  try clear c9
  try clear c12
  try clear hcz11_0
  try clear hcz11_1
  try clear hcz11_2
  try clear hcz11_3
  try clear hcz11_4
  try clear hcz11_5
  try clear hcz11_6
  try clear hcz11_7
  try clear hcz11_8
  try clear hcz11_9
  try clear hcz13_0
  try clear hcz13_1
  try clear hcz13_2
  try clear hcz13_3
  try clear hcz13_4
  try clear hcz13_5
  try clear hcz13_6
  try clear hcz13_7
  try clear hcz13_8
  try clear hcz13_9
  try clear hcz5_0
  try clear hcz5_1
  try clear hcz5_2
  try clear hcz5_3
  try clear hcz5_4
  try clear hcz5_5
  try clear hcz5_6
  try clear hcz5_7
  try clear hcz5_8
  try clear hcz5_9
  try clear hcz7_0
  try clear hcz7_1
  try clear hcz7_2
  try clear hcz7_3
  try clear hcz7_4
  try clear hcz7_5
  try clear hcz7_6
  try clear hcz7_7
  try clear hcz7_8
  try clear hcz7_9
  try clear hfz11_0
  try clear hfz11_1
  try clear hfz11_2
  try clear hfz11_3
  try clear hfz11_4
  try clear hfz11_5
  try clear hfz11_6
  try clear hfz11_7
  try clear hfz11_8
  try clear hfz11_9
  try clear hfz13_0
  try clear hfz13_1
  try clear hfz13_2
  try clear hfz13_3
  try clear hfz13_4
  try clear hfz13_5
  try clear hfz13_6
  try clear hfz13_7
  try clear hfz13_8
  try clear hfz13_9
  try clear hfz5_0
  try clear hfz5_1
  try clear hfz5_2
  try clear hfz5_3
  try clear hfz5_4
  try clear hfz5_5
  try clear hfz5_6
  try clear hfz5_7
  try clear hfz5_8
  try clear hfz5_9
  try clear hfz7_0
  try clear hfz7_1
  try clear hfz7_2
  try clear hfz7_3
  try clear hfz7_4
  try clear hfz7_5
  try clear hfz7_6
  try clear hfz7_7
  try clear hfz7_8
  try clear hfz7_9
  obtain ⟨kq, x22_1, rfl, HA, HJ1, BK103, HB⟩ := hcut
  cases kq with
  | zero => exact absurd HA.out (by simp [order_Words.j0])
  | succ kj1 =>
   have H := HA.out
   clear HA
   simp only [order_Words.j0] at H
   by_cases c14 : x22_1 = true
   ·subst c14
    have H1 : (some ([] : List ByteArray)) = some r := by rw [if_pos rfl] at H; exact H
    clear H
    have H := H1
    clear H1
    obtain rfl := Option.some.inj H
    go_wp2
    go_ret
    exact ⟨_, by first | rfl | (simp [errW_none, errW_some] <;> rfl) | (simp [*, errW_none, errW_some] <;> rfl), by first | exact Kd.R_nil _ _ _ _ _ | exact Kd.N_nil _ _ _ _ _ | exact Kd.V_nil _ _ _ _ _ | exact Kd.Q_nil _ _ _ _ _ | exact Kd.S_nil _ _ _ _ _, by repeat (first | (with_reducible first | exact HB.out | apply below_alloc | apply pw_below_drewN | apply below_drew1 | refine below_set ?_ GE103.out) | exact HB.out)⟩
   ·replace c14 := Bool.eq_false_iff.mpr c14
    subst c14
    have H1 : ((order_Verbs.f).bind fun t106 => (if 0 ≤ (wrap64 (a0_0 - 1)) then (if (wrap64 (a0_0 - 1)) < (t106.length : Int) then ((strings_Fields.f (rdOf ByteArray.empty t106 (wrap64 (a0_0 - 1)))).bind fun t110 => ((order_noProxy.f a0_0).bind fun t113 => (if t113 = true then (order_Words.j1 kj1 t110 a0_0 a0_1 a0_2 a0_3 a0_4 a0_5 a0_6 a0_7 a0_8 a0_9) else (if t110.length < 8796093022208 then (order_Words.j1 kj1 (t110 ++ [a0_1]) a0_0 a0_1 a0_2 a0_3 a0_4 a0_5 a0_6 a0_7 a0_8 a0_9) else (none))))) else (none)) else (none))) = some r := by rw [if_neg (show ¬ (false = true) by decide)] at H; exact H
    clear H
    have H := H1
    clear H1
    replace H := Option.bind_eq_some_iff.mp H
    obtain ⟨t106, A150, H⟩ := H
    replace H : (if 0 ≤ (wrap64 (a0_0 - 1)) then (if (wrap64 (a0_0 - 1)) < (t106.length : Int) then ((strings_Fields.f (rdOf ByteArray.empty t106 (wrap64 (a0_0 - 1)))).bind fun t110 => ((order_noProxy.f a0_0).bind fun t113 => (if t113 = true then (order_Words.j1 kj1 t110 a0_0 a0_1 a0_2 a0_3 a0_4 a0_5 a0_6 a0_7 a0_8 a0_9) else (if t110.length < 8796093022208 then (order_Words.j1 kj1 (t110 ++ [a0_1]) a0_0 a0_1 a0_2 a0_3 a0_4 a0_5 a0_6 a0_7 a0_8 a0_9) else (none))))) else (none)) else (none)) = some r := H
    have A15 := Aside0.mk A150
    clear A150
    obtain ⟨ji16, hji16⟩ : ∃ j_ : Int, (wrap64 (a0_0 - 1)) = j_ := ⟨_, rfl⟩
    replace H : (if 0 ≤ (ji16) then (if (ji16) < (t106.length : Int) then ((strings_Fields.f (rdOf ByteArray.empty t106 (ji16))).bind fun t110 => ((order_noProxy.f a0_0).bind fun t113 => (if t113 = true then (order_Words.j1 kj1 t110 a0_0 a0_1 a0_2 a0_3 a0_4 a0_5 a0_6 a0_7 a0_8 a0_9) else (if t110.length < 8796093022208 then (order_Words.j1 kj1 (t110 ++ [a0_1]) a0_0 a0_1 a0_2 a0_3 a0_4 a0_5 a0_6 a0_7 a0_8 a0_9) else (none))))) else (none)) else (none)) = some r := by first | (rw [hji16] at H; exact H) | (simp only [hji16] at H ⊢; exact H)
    (try rw [hji16] at A15)
    have hji16w : (IntKind.i64.wrap (a0_0 - 1)) = ji16 := (i64_w _).trans hji16
    by_cases c17 : 0 ≤ (ji16)
    ·rw [if_pos c17] at H
     have c17b0 : decide (0 ≤ (ji16)) = true := decide_eq_true c17
     clear c17
     by_cases c18 : (ji16) < (t106.length : Int)
     ·rw [if_pos c18] at H
      have c18b0 : decide ((ji16) < (t106.length : Int)) = true := decide_eq_true c18
      clear c18
      replace H := Option.bind_eq_some_iff.mp H
      obtain ⟨t110, A190, H⟩ := H
      replace H : ((order_noProxy.f a0_0).bind fun t113 => (if t113 = true then (order_Words.j1 kj1 t110 a0_0 a0_1 a0_2 a0_3 a0_4 a0_5 a0_6 a0_7 a0_8 a0_9) else (if t110.length < 8796093022208 then (order_Words.j1 kj1 (t110 ++ [a0_1]) a0_0 a0_1 a0_2 a0_3 a0_4 a0_5 a0_6 a0_7 a0_8 a0_9) else (none)))) = some r := H
      have A19 := Aside0.mk A190
      clear A190
      replace H := Option.bind_eq_some_iff.mp H
      obtain ⟨t113, A200, H⟩ := H
      replace H : (if t113 = true then (order_Words.j1 kj1 t110 a0_0 a0_1 a0_2 a0_3 a0_4 a0_5 a0_6 a0_7 a0_8 a0_9) else (if t110.length < 8796093022208 then (order_Words.j1 kj1 (t110 ++ [a0_1]) a0_0 a0_1 a0_2 a0_3 a0_4 a0_5 a0_6 a0_7 a0_8 a0_9) else (none))) = some r := H
      have A20 := Aside0.mk A200
      clear A200
      have HC21 := Aside0.mk H
      clear H
      try go_wp2
      have n0_ := Aside0.mk (blk_drew BK103.out)
      have n1_ := Aside0.mk (below_drew1 HB.out)
      clear BK103
      clear HB
      have BK103 := n0_
      have HB := n1_
      clear n0_ n1_
      refine start_ (n := 8) (S := fun w' => w'.cell? ⟨gb103, 0, none⟩ = some (.int .i64 a0_0) ∧ w'.cell? ⟨gb103, 1, none⟩ = some (.string a0_1) ∧ w'.cell? ⟨gb103, 2, none⟩ = some (.string a0_2) ∧ w'.cell? ⟨gb103, 3, none⟩ = some (.int .i64 a0_3) ∧ w'.cell? ⟨gb103, 4, none⟩ = some (.string a0_4) ∧ w'.cell? ⟨gb103, 5, none⟩ = some (.int .i64 a0_5) ∧ w'.cell? ⟨gb103, 6, none⟩ = some (.bool a0_6) ∧ w'.cell? ⟨gb103, 7, none⟩ = some (.int .i64 a0_7) ∧ w'.cell? ⟨gb103, 8, none⟩ = some (.int .i64 a0_8) ∧ w'.cell? ⟨gb103, 9, none⟩ = some (.int .i64 a0_9)) (ds := []) #[false, false, false, false, false, false, false, false] (by kernel_rfl) rfl rfl ⟨(blk_cell BK103.out 0).trans rfl, (blk_cell BK103.out 1).trans rfl, (blk_cell BK103.out 2).trans rfl, (blk_cell BK103.out 3).trans rfl, (blk_cell BK103.out 4).trans rfl, (blk_cell BK103.out 5).trans rfl, (blk_cell BK103.out 6).trans rfl, (blk_cell BK103.out 7).trans rfl, (blk_cell BK103.out 8).trans rfl, (blk_cell BK103.out 9).trans rfl⟩ (fun hHeld => ?_); refine with_tabW order_Words.tab3 order_Words.bits3 (fun HT_ HW_ => ?_)
      generalize wc.drew = w22 at BK103 HB hHeld ⊢
      refine pure_ (i := 1) (N := some 24) (v := ?_) (a' := ?_) #[false, true, false, false, false, false, false, false] rfl rfl (any_of HT_.out (by kernel_rfl)) (fun _ _ _ h => h) (Or.inl ⟨by rfl, ?_⟩) ?_ ?_
      rotate_left
      ·intro w'
       go_simp
       with_reducible rfl
      rotate_left
      ·simp only [Act.put, List.setIfInBounds_toArray, List.set_cons_zero, List.set_cons_succ, i64_w, i32_w]
       rfl
      refine take_ (i := 2) (N := some 25) (v := ?_) (a' := ?_) #[false, true, true, false, false, false, false, false] rfl rfl (take_ofW HT_.out HW_.out (by kernel_rfl)) (fun _ _ _ h => h) (Or.inl ⟨by rfl, ?_⟩) hHeld ?_ ?_
      rotate_left
      ·rintro w' ⟨s0, s1, s2, s3, s4, s5, s6, s7, s8, s9⟩
       go_simp
       with_reducible rfl
      rotate_left
      ·simp only [Act.put, List.setIfInBounds_toArray, List.set_cons_zero, List.set_cons_succ, i64_w, i32_w]
       rfl
      refine pure_ (i := 3) (N := some 26) (v := ?_) (a' := ?_) #[false, true, true, true, false, false, false, false] rfl rfl (any_of HT_.out (by kernel_rfl)) (fun _ _ _ h => h) (Or.inl ⟨by rfl, ?_⟩) ?_ ?_
      rotate_left
      ·intro w'
       go_simp
       with_reducible rfl
      rotate_left
      ·simp only [Act.put, List.setIfInBounds_toArray, List.set_cons_zero, List.set_cons_succ, i64_w, i32_w]
       rfl
      refine one_ (i := 0) (N := some 23) #[true, true, true, true, false, false, false, false] rfl rfl (one_of HT_.out (by kernel_rfl)) (by decide) (fun K hK => ?_)
      refine goes_ Tryz.func18 (by kernel_rfl) rfl #[] (by rfl) rfl rfl (by (try simp only [List.map_toArray, List.map_cons, List.map_nil]); first | done | rfl | (simp only [List.length_drop, List.length_take]; rfl)) ?_
      with_reducible refine (order_Verbs.calls  t106 _ A15.out).mono ?_
      rintro e w23 ⟨v107, rfl, ho0, hb⟩
      skip
      refine ⟨_, rfl, ?_⟩
      have n0_ := Aside0.mk (Kd.R_lower ho0 (below_size (by repeat (first | (with_reducible first | exact HB.out | apply below_alloc | apply pw_below_drewN | apply below_drew1 | refine below_set ?_ GE103.out) | exact HB.out))))
      have n1_ := Aside0.mk (blk_below (g := gb103) (o := .cells #[.int .i64 a0_0, .string a0_1, .string a0_2, .int .i64 a0_3, .string a0_4, .int .i64 a0_5, .bool a0_6, .int .i64 a0_7, .int .i64 a0_8, .int .i64 a0_9] 27 (0, 0)) (by (with_reducible repeat (first | refine blk_drewN ?_ _ | refine blk_drew ?_ | refine blk_alloc ?_ _)); exact BK103.out) hb)
      have n2_ := Aside0.mk (below_step (by repeat (first | (with_reducible first | exact HB.out | apply below_alloc | apply pw_below_drewN | apply below_drew1 | refine below_set ?_ GE103.out) | exact HB.out)) hb)
      clear BK103
      clear HB
      have HO108 := n0_
      have BK103 := n1_
      have HB := n2_
      clear n0_ n1_ n2_
      (try clear hb)
      (try clear hb2)
      (try clear hk)
      (try clear hi)
      (try clear ho0)
      obtain ⟨Ao24, co24, eo24⟩ := Kd.R_slice HO108.out
      (first | subst eo24 | (injection eo24 with f1_ f2_ f3_; have f4_ := f1_.symm; have f5_ := f3_.symm; clear f1_ f2_ f3_; subst f4_; subst f5_))
      have p109 : 0 ≤ ((ji16) : Int) := of_decide_eq_true (by first | (with_reducible assumption) | assumption)
      have q109 : (ji16) < (t106.length : Int) := of_decide_eq_true (by first | (with_reducible assumption) | assumption)
      obtain ⟨ad109, e109, hx109_0⟩ := Kd.at_string (Kd.R_reads' HO108.out).2.2 (ji16) p109 q109
      cases e109
      replace p109 := eq_true p109
      replace q109 := eq_true q109
      refine hK.out _ _ ⟨(blk_cell BK103.out 0).trans rfl, (blk_cell BK103.out 1).trans rfl, (blk_cell BK103.out 2).trans rfl, (blk_cell BK103.out 3).trans rfl, (blk_cell BK103.out 4).trans rfl, (blk_cell BK103.out 5).trans rfl, (blk_cell BK103.out 6).trans rfl, (blk_cell BK103.out 7).trans rfl, (blk_cell BK103.out 8).trans rfl, (blk_cell BK103.out 9).trans rfl⟩ (fun hHeld => ?_)
      clear hK K
      refine norm_ (a' := ?_) ?_ ?_
      rotate_left
      ·show Act.put _ (some 23) _ = _
       simp only [Act.put, List.setIfInBounds_toArray, List.set_cons_zero, List.set_cons_succ, i64_w, i32_w]
       rfl
      refine pure_ (i := 4) (N := some 27) (v := ?_) (a' := ?_) #[true, true, true, true, true, false, false, false] rfl rfl (any_of HT_.out (by kernel_rfl)) (fun _ _ _ h => h) (Or.inl ⟨by rfl, ?_⟩) ?_ ?_
      rotate_left
      ·intro w'
       go_simp
       with_reducible rfl
      rotate_left
      ·simp only [Act.put, List.setIfInBounds_toArray, List.set_cons_zero, List.set_cons_succ, i64_w, i32_w]
       rfl
      refine yield_one (i := 5) (N := some 28) (v := ?_) (a' := ?_) #[true, true, true, true, true, true, false, false] rfl rfl (one_of HT_.out (by kernel_rfl)) (by decide) (Or.inl ⟨by rfl, ?_⟩) hHeld ?_ ?_
      rotate_left
      ·rintro w' rfl
       go_simp
       with_reducible rfl
      rotate_left
      ·simp only [Act.put, List.setIfInBounds_toArray, List.set_cons_zero, List.set_cons_succ, i64_w, i32_w]
       rfl
      refine one_ (i := 6) (N := some 29) #[true, true, true, true, true, true, true, false] rfl rfl (one_of HT_.out (by kernel_rfl)) (by decide) (fun K hK => ?_)
      refine goes_ Tryz.func35 (by kernel_rfl) rfl #[.string (rdOf ByteArray.empty t106 (ji16))] (by rfl) rfl rfl (by (try simp only [List.map_toArray, List.map_cons, List.map_nil]); first | done | (simp only [hji16]; rfl) | rfl | (simp only [List.length_drop, List.length_take]; rfl)) ?_
      with_reducible refine (strings_Fields.calls (rdOf ByteArray.empty t106 (ji16)) t110 _ (⟨Ext.tab_below hT.out (by repeat (first | (with_reducible first | exact HB.out | apply below_alloc | apply pw_below_drewN | apply below_drew1 | refine below_set ?_ GE103.out) | exact HB.out))⟩) A19.out).mono ?_
      rintro e w25 ⟨v111, rfl, ho0, hb⟩
      skip
      refine ⟨_, rfl, ?_⟩
      have n0_ := Aside0.mk (Kd.R_elder' (by (with_reducible repeat (first | apply Kd.R_alloc | apply Kd.R_drewN | apply Kd.R_drew)); exact HO108.out) (Kd.R_base ho0) hb)
      have n1_ := Aside0.mk (Kd.R_lower (Kd.R_new' ho0 (Kd.R_lt (by (with_reducible repeat (first | apply Kd.R_alloc | apply Kd.R_drewN | apply Kd.R_drew)); exact HO108.out))) (below_size (by repeat (first | (with_reducible first | exact HB.out | apply below_alloc | apply pw_below_drewN | apply below_drew1 | refine below_set ?_ GE103.out) | exact HB.out))))
      have n2_ := Aside0.mk (blk_below (g := gb103) (o := .cells #[.int .i64 a0_0, .string a0_1, .string a0_2, .int .i64 a0_3, .string a0_4, .int .i64 a0_5, .bool a0_6, .int .i64 a0_7, .int .i64 a0_8, .int .i64 a0_9] 27 (0, 0)) (by (with_reducible repeat (first | refine blk_drewN ?_ _ | refine blk_drew ?_ | refine blk_alloc ?_ _)); exact BK103.out) hb)
      have n3_ := Aside0.mk (below_step (by repeat (first | (with_reducible first | exact HB.out | apply below_alloc | apply pw_below_drewN | apply below_drew1 | refine below_set ?_ GE103.out) | exact HB.out)) hb)
      clear HO108
      clear BK103
      clear HB
      have HO108 := n0_
      have HO112 := n1_
      have BK103 := n2_
      have HB := n3_
      clear n0_ n1_ n2_ n3_
      (try clear hb)
      (try clear hb2)
      (try clear hk)
      (try clear hi)
      (try clear ho0)
      refine hK.out _ _ ⟨(blk_cell BK103.out 0).trans rfl, (blk_cell BK103.out 1).trans rfl, (blk_cell BK103.out 2).trans rfl, (blk_cell BK103.out 3).trans rfl, (blk_cell BK103.out 4).trans rfl, (blk_cell BK103.out 5).trans rfl, (blk_cell BK103.out 6).trans rfl, (blk_cell BK103.out 7).trans rfl, (blk_cell BK103.out 8).trans rfl, (blk_cell BK103.out 9).trans rfl⟩ (fun hHeld => ?_)
      clear hK K
      refine norm_ (a' := ?_) ?_ ?_
      rotate_left
      ·show Act.put _ (some 29) _ = _
       simp only [Act.put, List.setIfInBounds_toArray, List.set_cons_zero, List.set_cons_succ, i64_w, i32_w]
       rfl
      refine pure_ (i := 7) (N := some 3) (v := ?_) (a' := ?_) #[true, true, true, true, true, true, true, true] rfl rfl (any_of HT_.out (by kernel_rfl)) (fun _ _ _ h => h) (Or.inl ⟨by rfl, ?_⟩) ?_ ?_
      rotate_left
      ·intro w'
       go_simp
       with_reducible rfl
      rotate_left
      ·simp only [Act.put, List.setIfInBounds_toArray, List.set_cons_zero, List.set_cons_succ, i64_w, i32_w]
       rfl
      refine done_ (done_of HT_.out (by kernel_rfl)) ?_
      have hcz26_0 : w25.cell? ⟨gb103, 0, none⟩ = some (.int .i64 a0_0) := (blk_cell BK103.out 0).trans rfl
      have hcz26_1 : w25.cell? ⟨gb103, 1, none⟩ = some (.string a0_1) := (blk_cell BK103.out 1).trans rfl
      have hcz26_2 : w25.cell? ⟨gb103, 2, none⟩ = some (.string a0_2) := (blk_cell BK103.out 2).trans rfl
      have hcz26_3 : w25.cell? ⟨gb103, 3, none⟩ = some (.int .i64 a0_3) := (blk_cell BK103.out 3).trans rfl
      have hcz26_4 : w25.cell? ⟨gb103, 4, none⟩ = some (.string a0_4) := (blk_cell BK103.out 4).trans rfl
      have hcz26_5 : w25.cell? ⟨gb103, 5, none⟩ = some (.int .i64 a0_5) := (blk_cell BK103.out 5).trans rfl
      have hcz26_6 : w25.cell? ⟨gb103, 6, none⟩ = some (.bool a0_6) := (blk_cell BK103.out 6).trans rfl
      have hcz26_7 : w25.cell? ⟨gb103, 7, none⟩ = some (.int .i64 a0_7) := (blk_cell BK103.out 7).trans rfl
      have hcz26_8 : w25.cell? ⟨gb103, 8, none⟩ = some (.int .i64 a0_8) := (blk_cell BK103.out 8).trans rfl
      have hcz26_9 : w25.cell? ⟨gb103, 9, none⟩ = some (.int .i64 a0_9) := (blk_cell BK103.out 9).trans rfl
      have hfz26_0 := blk_frozen BK103.out 0
      have hfz26_1 := blk_frozen BK103.out 1
      have hfz26_2 := blk_frozen BK103.out 2
      have hfz26_3 := blk_frozen BK103.out 3
      have hfz26_4 := blk_frozen BK103.out 4
      have hfz26_5 := blk_frozen BK103.out 5
      have hfz26_6 := blk_frozen BK103.out 6
      have hfz26_7 := blk_frozen BK103.out 7
      have hfz26_8 := blk_frozen BK103.out 8
      have hfz26_9 := blk_frozen BK103.out 9
      go_upto_if 33 with (first | ((with_reducible refine gate_callee (f := 24) rfl ?_); refine goesL_ (some 32) rfl rfl Tryz.func24 (by kernel_rfl) rfl #[.int .i64 a0_0] rfl (by (try simp only [List.map_toArray, List.map_cons, List.map_nil]); first | done | rfl | (simp only [List.length_drop, List.length_take]; rfl)) ?_; (with_reducible refine (order_noProxy.calls a0_0 t113 _ A20.out).mono ?_); rintro e w' ⟨rfl, ⟨nd, rfl⟩⟩; refine ⟨_, rfl, ?_⟩))
      (try simp only [Act.put, List.setIfInBounds_toArray, List.set_cons_zero, List.set_cons_succ])
      go_cut [3] (fun v3 wc => ∃ (kq : Nat) (x3_20 : List ByteArray), Aside0 (order_Words.j1 kq x3_20 a0_0 a0_1 a0_2 a0_3 a0_4 a0_5 a0_6 a0_7 a0_8 a0_9 = some r) ∧ Aside0 (kq ≤ kj1) ∧ Aside0 (Kd.R Kd.string 9 wc w.heap.size (fun _ => True) v3 x3_20) ∧ Aside0 (wc.heap[gb103]? = some (.cells #[.int .i64 a0_0, .string a0_1, .string a0_2, .int .i64 a0_3, .string a0_4, .int .i64 a0_5, .bool a0_6, .int .i64 a0_7, .int .i64 a0_8, .int .i64 a0_9] 27 (0, 0))) ∧ Aside0 (Below w.heap.size w wc))
      case first =>
       have H := HC21.out
       clear HC21
       by_cases c27 : t113 = true
       ·subst c27
        have H1 : (order_Words.j1 kj1 t110 a0_0 a0_1 a0_2 a0_3 a0_4 a0_5 a0_6 a0_7 a0_8 a0_9) = some r := by rw [if_pos rfl] at H; exact H
        clear H
        have H := H1
        clear H1
        have H' := Aside0.mk H
        clear H
        go_wp2
        go_meet
        case rel => exact ⟨_, (t110), H', ⟨by have := HJ1.out; first | omega | exact Nat.le_refl _⟩, ⟨by (with_reducible repeat (first | apply Kd.R_alloc | apply Kd.R_drewN | apply Kd.R_drew)); exact Kd.R_mono HO112.out (fun _ hk => trivial)⟩, ⟨by (with_reducible repeat (first | refine blk_drewN ?_ _ | refine blk_drew ?_ | refine blk_alloc ?_ _)); exact BK103.out⟩, ⟨by repeat (first | (with_reducible first | exact HB.out | apply below_alloc | apply pw_below_drewN | apply below_drew1 | refine below_set ?_ GE103.out) | exact HB.out)⟩⟩
       ·replace c27 := Bool.eq_false_iff.mpr c27
        subst c27
        have H1 : (if t110.length < 8796093022208 then (order_Words.j1 kj1 (t110 ++ [a0_1]) a0_0 a0_1 a0_2 a0_3 a0_4 a0_5 a0_6 a0_7 a0_8 a0_9) else (none)) = some r := by rw [if_neg (show ¬ (false = true) by decide)] at H; exact H
        clear H
        have H := H1
        clear H1
        by_cases c28 : t110.length < 8796093022208
        ·rw [if_pos c28] at H
         have LMc28 := Aside0.mk c28
         clear c28
         obtain ⟨y114, hy114⟩ : ∃ y_ : List ByteArray, y_ = (t110 ++ [a0_1]) := ⟨_, rfl⟩
         replace H : (order_Words.j1 kj1 y114 a0_0 a0_1 a0_2 a0_3 a0_4 a0_5 a0_6 a0_7 a0_8 a0_9) = some r := by first | (rw [hy114]; with_reducible exact H) | (have H2_ := (Option.bind_some _ _).symm.trans H; rw [hy114]; with_reducible exact H2_) | (have H2_ := (Option.bind_some _ _).symm.trans H; with_reducible exact H2_) | with_reducible exact H | (rw [hy114]; exact H) | exact H
         have Ny114 := Aside0.mk hy114
         clear hy114
         have H' := Aside0.mk H
         clear H
         have hcz29_0 : w25.cell? ⟨gb103, 0, none⟩ = some (.int .i64 a0_0) := (blk_cell BK103.out 0).trans rfl
         have hcz29_1 : w25.cell? ⟨gb103, 1, none⟩ = some (.string a0_1) := (blk_cell BK103.out 1).trans rfl
         have hcz29_2 : w25.cell? ⟨gb103, 2, none⟩ = some (.string a0_2) := (blk_cell BK103.out 2).trans rfl
         have hcz29_3 : w25.cell? ⟨gb103, 3, none⟩ = some (.int .i64 a0_3) := (blk_cell BK103.out 3).trans rfl
         have hcz29_4 : w25.cell? ⟨gb103, 4, none⟩ = some (.string a0_4) := (blk_cell BK103.out 4).trans rfl
         have hcz29_5 : w25.cell? ⟨gb103, 5, none⟩ = some (.int .i64 a0_5) := (blk_cell BK103.out 5).trans rfl
         have hcz29_6 : w25.cell? ⟨gb103, 6, none⟩ = some (.bool a0_6) := (blk_cell BK103.out 6).trans rfl
         have hcz29_7 : w25.cell? ⟨gb103, 7, none⟩ = some (.int .i64 a0_7) := (blk_cell BK103.out 7).trans rfl
         have hcz29_8 : w25.cell? ⟨gb103, 8, none⟩ = some (.int .i64 a0_8) := (blk_cell BK103.out 8).trans rfl
         have hcz29_9 : w25.cell? ⟨gb103, 9, none⟩ = some (.int .i64 a0_9) := (blk_cell BK103.out 9).trans rfl
         have hfz29_0 := blk_frozen BK103.out 0
         have hfz29_1 := blk_frozen BK103.out 1
         have hfz29_2 := blk_frozen BK103.out 2
         have hfz29_3 := blk_frozen BK103.out 3
         have hfz29_4 := blk_frozen BK103.out 4
         have hfz29_5 := blk_frozen BK103.out 5
         have hfz29_6 := blk_frozen BK103.out 6
         have hfz29_7 := blk_frozen BK103.out 7
         have hfz29_8 := blk_frozen BK103.out 8
         have hfz29_9 := blk_frozen BK103.out 9
         go_wp2_with (first | ((with_reducible refine gate_builtin (b := .append) (xs := #[.tmp 34, .tmp 37]) rfl ?_); at_builtin; refine Kd.R_append Kd.string (w0 := w) w.heap.size rfl (.tmp 34) (.tmp 37) 22 9 (.string ⟨#[]⟩) 16 rfl Tryz.underlying22 info9 rfl (by decide) (by omega) v111 t110 a0_1 [.string a0_1] (fun k_ => some k_ ≠ (.slice (some ad109) t106.length co24 : Value).ownBlock) (fun _ => False) rfl rfl ?aP (fun _ hk => hk.elim) ?aF ?aO ?aB ?aS ?aL ?_; (case aP => exact rfl); (case aB => exact (by repeat (first | (with_reducible first | exact HB.out | apply below_alloc | apply pw_below_drewN | apply below_drew1 | refine below_set ?_ GE103.out) | exact HB.out))); (case aF => exact (fun k_ hk => Kd.fresh' (Kd.R_lt (by (with_reducible repeat (first | apply Kd.R_alloc | apply Kd.R_drewN | apply Kd.R_drew)); exact HO108.out)) k_ hk)); (case aO => exact (by (with_reducible repeat (first | apply Kd.R_alloc | apply Kd.R_drewN | apply Kd.R_drew)); exact Kd.R_mono HO112.out (fun _ hk => hk.2))); (case aS => exact (below_size (by repeat (first | (with_reducible first | exact HB.out | apply below_alloc | apply pw_below_drewN | apply below_drew1 | refine below_set ?_ GE103.out) | exact HB.out)))); (case aL => have := LMc28.out; omega); intro v115 w30 ho hb hg hat; rw [← Ny114.out] at ho; have n0_ := Aside0.mk (blk_grown (g := gb103) (o := .cells #[.int .i64 a0_0, .string a0_1, .string a0_2, .int .i64 a0_3, .string a0_4, .int .i64 a0_5, .bool a0_6, .int .i64 a0_7, .int .i64 a0_8, .int .i64 a0_9] 27 (0, 0)) (by (with_reducible repeat (first | refine blk_drewN ?_ _ | refine blk_drew ?_ | refine blk_alloc ?_ _)); exact BK103.out) hg (Kd.R_ne HO112.out BK103.out (by decide))); have n1_ := Aside0.mk (Kd.R_after (ok := (fun _ => True)) (by (with_reducible repeat (first | apply Kd.R_alloc | apply Kd.R_drewN | apply Kd.R_drew)); exact HO108.out) hg hat); have n2_ := Aside0.mk (hb); have n3_ := Aside0.mk (ho); clear BK103; clear HO108; clear HB; clear HO112; have BK103 := n0_; have HO108 := n1_; have HB := n2_; have HO116 := n3_; clear n0_ n1_ n2_ n3_; clear ho hb hg hat))
         go_meet
         case rel => exact ⟨_, (y114), H', ⟨by have := HJ1.out; first | omega | exact Nat.le_refl _⟩, ⟨by (with_reducible repeat (first | apply Kd.R_alloc | apply Kd.R_drewN | apply Kd.R_drew)); exact Kd.R_mono HO116.out (fun _ hk => trivial)⟩, ⟨by (with_reducible repeat (first | refine blk_drewN ?_ _ | refine blk_drew ?_ | refine blk_alloc ?_ _)); exact BK103.out⟩, ⟨by repeat (first | (with_reducible first | exact HB.out | apply below_alloc | apply pw_below_drewN | apply below_drew1 | refine below_set ?_ GE103.out) | exact HB.out)⟩⟩
        ·rw [if_neg c28] at H
         exact absurd H (by simp)
      case rest =>
       clear HC21
       try clear c1
       try clear p1
       try clear q1
       try clear hx1
       try clear c2
       try clear p2
       try clear c3
       try clear c4
       try clear c4b0
       try clear c6
       try clear c6b0
       try clear p6
       try clear c9
       try clear p10
       try clear q10
       try clear hx10
       try clear c12
       try clear c14
       try clear c17
       try clear c17b0
       try clear c18
       try clear c18b0
       try clear c24
       try clear c27
       try clear c28
       try clear hcz11_0
       try clear hcz11_1
       try clear hcz11_2
       try clear hcz11_3
       try clear hcz11_4
       try clear hcz11_5
       try clear hcz11_6
       try clear hcz11_7
       try clear hcz11_8
       try clear hcz11_9
       try clear hcz13_0
       try clear hcz13_1
       try clear hcz13_2
       try clear hcz13_3
       try clear hcz13_4
       try clear hcz13_5
       try clear hcz13_6
       try clear hcz13_7
       try clear hcz13_8
       try clear hcz13_9
       try clear hcz26_0
       try clear hcz26_1
       try clear hcz26_2
       try clear hcz26_3
       try clear hcz26_4
       try clear hcz26_5
       try clear hcz26_6
       try clear hcz26_7
       try clear hcz26_8
       try clear hcz26_9
       try clear hcz29_0
       try clear hcz29_1
       try clear hcz29_2
       try clear hcz29_3
       try clear hcz29_4
       try clear hcz29_5
       try clear hcz29_6
       try clear hcz29_7
       try clear hcz29_8
       try clear hcz29_9
       try clear hcz5_0
       try clear hcz5_1
       try clear hcz5_2
       try clear hcz5_3
       try clear hcz5_4
       try clear hcz5_5
       try clear hcz5_6
       try clear hcz5_7
       try clear hcz5_8
       try clear hcz5_9
       try clear hcz7_0
       try clear hcz7_1
       try clear hcz7_2
       try clear hcz7_3
       try clear hcz7_4
       try clear hcz7_5
       try clear hcz7_6
       try clear hcz7_7
       try clear hcz7_8
       try clear hcz7_9
       try clear hfz11_0
       try clear hfz11_1
       try clear hfz11_2
       try clear hfz11_3
       try clear hfz11_4
       try clear hfz11_5
       try clear hfz11_6
       try clear hfz11_7
       try clear hfz11_8
       try clear hfz11_9
       try clear hfz13_0
       try clear hfz13_1
       try clear hfz13_2
       try clear hfz13_3
       try clear hfz13_4
       try clear hfz13_5
       try clear hfz13_6
       try clear hfz13_7
       try clear hfz13_8
       try clear hfz13_9
       try clear hfz26_0
       try clear hfz26_1
       try clear hfz26_2
       try clear hfz26_3
       try clear hfz26_4
       try clear hfz26_5
       try clear hfz26_6
       try clear hfz26_7
       try clear hfz26_8
       try clear hfz26_9
       try clear hfz29_0
       try clear hfz29_1
       try clear hfz29_2
       try clear hfz29_3
       try clear hfz29_4
       try clear hfz29_5
       try clear hfz29_6
       try clear hfz29_7
       try clear hfz29_8
       try clear hfz29_9
       try clear hfz5_0
       try clear hfz5_1
       try clear hfz5_2
       try clear hfz5_3
       try clear hfz5_4
       try clear hfz5_5
       try clear hfz5_6
       try clear hfz5_7
       try clear hfz5_8
       try clear hfz5_9
       try clear hfz7_0
       try clear hfz7_1
       try clear hfz7_2
       try clear hfz7_3
       try clear hfz7_4
       try clear hfz7_5
       try clear hfz7_6
       try clear hfz7_7
       try clear hfz7_8
       try clear hfz7_9
       try clear hx109_0
       try clear p109
       try clear p2
       try clear q109
       obtain ⟨kq, x3_20, HA, HJ20, HO_3, BK103, HB⟩ := hcut
       cases kq with
       | zero => exact absurd HA.out (by simp [order_Words.j1])
       | succ kj20 =>
        have H := HA.out
        clear HA
        simp only [order_Words.j1] at H
        by_cases c31 : a0_0 = 1
        ·rw [if_pos c31] at H
         have c31b0 : (a0_0 == 1) = true := beq_iff_eq.mpr c31
         have c31b1 : (a0_0 != 1) = false := bne_eq_false_iff_eq.mpr c31
         clear c31
         replace H := Option.bind_eq_some_iff.mp H
         obtain ⟨t117, A320, H⟩ := H
         replace H : (if x3_20.length < 8796093022208 then (some (x3_20 ++ [t117])) else (none)) = some r := H
         have A32 := Aside0.mk A320
         clear A320
         by_cases c33 : x3_20.length < 8796093022208
         ·rw [if_pos c33] at H
          have LMc33 := Aside0.mk c33
          clear c33
          obtain ⟨y118, hy118⟩ : ∃ y_ : List ByteArray, y_ = (x3_20 ++ [t117]) := ⟨_, rfl⟩
          replace H : (some y118) = some r := by first | (rw [hy118]; with_reducible exact H) | (have H2_ := (Option.bind_some _ _).symm.trans H; rw [hy118]; with_reducible exact H2_) | (have H2_ := (Option.bind_some _ _).symm.trans H; with_reducible exact H2_) | with_reducible exact H | (rw [hy118]; exact H) | exact H
          have Ny118 := Aside0.mk hy118
          clear hy118
          obtain rfl := Option.some.inj H
          have hcz34_0 : wc.cell? ⟨gb103, 0, none⟩ = some (.int .i64 a0_0) := (blk_cell BK103.out 0).trans rfl
          have hcz34_1 : wc.cell? ⟨gb103, 1, none⟩ = some (.string a0_1) := (blk_cell BK103.out 1).trans rfl
          have hcz34_2 : wc.cell? ⟨gb103, 2, none⟩ = some (.string a0_2) := (blk_cell BK103.out 2).trans rfl
          have hcz34_3 : wc.cell? ⟨gb103, 3, none⟩ = some (.int .i64 a0_3) := (blk_cell BK103.out 3).trans rfl
          have hcz34_4 : wc.cell? ⟨gb103, 4, none⟩ = some (.string a0_4) := (blk_cell BK103.out 4).trans rfl
          have hcz34_5 : wc.cell? ⟨gb103, 5, none⟩ = some (.int .i64 a0_5) := (blk_cell BK103.out 5).trans rfl
          have hcz34_6 : wc.cell? ⟨gb103, 6, none⟩ = some (.bool a0_6) := (blk_cell BK103.out 6).trans rfl
          have hcz34_7 : wc.cell? ⟨gb103, 7, none⟩ = some (.int .i64 a0_7) := (blk_cell BK103.out 7).trans rfl
          have hcz34_8 : wc.cell? ⟨gb103, 8, none⟩ = some (.int .i64 a0_8) := (blk_cell BK103.out 8).trans rfl
          have hcz34_9 : wc.cell? ⟨gb103, 9, none⟩ = some (.int .i64 a0_9) := (blk_cell BK103.out 9).trans rfl
          have hfz34_0 := blk_frozen BK103.out 0
          have hfz34_1 := blk_frozen BK103.out 1
          have hfz34_2 := blk_frozen BK103.out 2
          have hfz34_3 := blk_frozen BK103.out 3
          have hfz34_4 := blk_frozen BK103.out 4
          have hfz34_5 := blk_frozen BK103.out 5
          have hfz34_6 := blk_frozen BK103.out 6
          have hfz34_7 := blk_frozen BK103.out 7
          have hfz34_8 := blk_frozen BK103.out 8
          have hfz34_9 := blk_frozen BK103.out 9
          go_wp2_with (first | ((with_reducible refine gate_callee (f := 36) rfl ?_); refine goesL_ (some 46) rfl rfl Tryz.func36 (by kernel_rfl) rfl #[.int .i64 a0_3] rfl (by (try simp only [List.map_toArray, List.map_cons, List.map_nil]); first | done | rfl | (simp only [List.length_drop, List.length_take]; rfl)) ?_; (with_reducible refine (tick_Text.calls a0_3 t117 _ A32.out).mono ?_); rintro e w35 ⟨rfl, hb⟩; refine ⟨_, rfl, ?_⟩; have n0_ := Aside0.mk (Kd.R_below (by (with_reducible repeat (first | apply Kd.R_alloc | apply Kd.R_drewN | apply Kd.R_drew)); exact HO_3.out) hb); have n1_ := Aside0.mk (blk_below (g := gb103) (o := .cells #[.int .i64 a0_0, .string a0_1, .string a0_2, .int .i64 a0_3, .string a0_4, .int .i64 a0_5, .bool a0_6, .int .i64 a0_7, .int .i64 a0_8, .int .i64 a0_9] 27 (0, 0)) (by (with_reducible repeat (first | refine blk_drewN ?_ _ | refine blk_drew ?_ | refine blk_alloc ?_ _)); exact BK103.out) hb); have n2_ := Aside0.mk (below_step (by repeat (first | (with_reducible first | exact HB.out | apply below_alloc | apply pw_below_drewN | apply below_drew1 | refine below_set ?_ GE103.out) | exact HB.out)) hb); clear HO_3; clear BK103; clear HB; have HO_3 := n0_; have BK103 := n1_; have HB := n2_; clear n0_ n1_ n2_; (try clear hb); (try clear hb2); (try clear hk); (try clear hi)) | ((with_reducible refine gate_builtin (b := .append) (xs := #[.tmp 43, .tmp 47]) rfl ?_); at_builtin; refine Kd.R_append Kd.string (w0 := w) w.heap.size rfl (.tmp 43) (.tmp 47) 22 9 (.string ⟨#[]⟩) 16 rfl Tryz.underlying22 info9 rfl (by decide) (by omega) u3 x3_20 t117 [.string t117] (fun _ => True) (fun _ => False) rfl rfl ?aP (fun _ hk => hk.elim) ?aF ?aO ?aB ?aS ?aL ?_; (case aP => exact rfl); (case aB => exact (by repeat (first | (with_reducible first | exact HB.out | apply below_alloc | apply pw_below_drewN | apply below_drew1 | refine below_set ?_ GE103.out) | exact HB.out))); (case aF => exact (fun _ _ => trivial)); (case aO => exact (by (with_reducible repeat (first | apply Kd.R_alloc | apply Kd.R_drewN | apply Kd.R_drew)); exact HO_3.out)); (case aS => exact (below_size (by repeat (first | (with_reducible first | exact HB.out | apply below_alloc | apply pw_below_drewN | apply below_drew1 | refine below_set ?_ GE103.out) | exact HB.out)))); (case aL => have := LMc33.out; omega); intro v119 w36 ho hb hg hat; rw [← Ny118.out] at ho; have n0_ := Aside0.mk (blk_grown (g := gb103) (o := .cells #[.int .i64 a0_0, .string a0_1, .string a0_2, .int .i64 a0_3, .string a0_4, .int .i64 a0_5, .bool a0_6, .int .i64 a0_7, .int .i64 a0_8, .int .i64 a0_9] 27 (0, 0)) (by (with_reducible repeat (first | refine blk_drewN ?_ _ | refine blk_drew ?_ | refine blk_alloc ?_ _)); exact BK103.out) hg (Kd.R_ne HO_3.out BK103.out (by decide))); have n1_ := Aside0.mk (hb); have n2_ := Aside0.mk (ho); clear BK103; clear HB; clear HO_3; have BK103 := n0_; have HB := n1_; have HO120 := n2_; clear n0_ n1_ n2_; clear ho hb hg hat))
          go_ret
          exact ⟨_, by first | rfl | (simp [errW_none, errW_some] <;> rfl) | (simp only [← hji16]; first | rfl | (simp [errW_none, errW_some] <;> rfl)) | (simp [*, errW_none, errW_some] <;> rfl), by (with_reducible repeat (first | apply Kd.R_alloc | apply Kd.R_drewN | apply Kd.R_drew)); exact HO120.out, by repeat (first | (with_reducible first | exact HB.out | apply below_alloc | apply pw_below_drewN | apply below_drew1 | refine below_set ?_ GE103.out) | exact HB.out)⟩
         ·rw [if_neg c33] at H
          exact absurd H (by simp)
        ·rw [if_neg c31] at H
         have c31b0 : (a0_0 == 1) = false := beq_eq_false_iff_ne.mpr c31
         have c31b1 : (a0_0 != 1) = true := bne_iff_ne.mpr c31
         by_cases c37 : a0_0 = 6
         ·rw [if_pos c37] at H
          have c37b0 : (a0_0 == 6) = true := beq_iff_eq.mpr c37
          have c37b1 : (a0_0 != 6) = false := bne_eq_false_iff_eq.mpr c37
          clear c37
          by_cases c38 : x3_20.length < 8796093022208
          ·rw [if_pos c38] at H
           have LMc38 := Aside0.mk c38
           clear c38
           obtain ⟨y121, hy121⟩ : ∃ y_ : List ByteArray, y_ = (x3_20 ++ [a0_2]) := ⟨_, rfl⟩
           replace H : (some y121) = some r := by first | (rw [hy121]; with_reducible exact H) | (have H2_ := (Option.bind_some _ _).symm.trans H; rw [hy121]; with_reducible exact H2_) | (have H2_ := (Option.bind_some _ _).symm.trans H; with_reducible exact H2_) | with_reducible exact H | (rw [hy121]; exact H) | exact H
           have Ny121 := Aside0.mk hy121
           clear hy121
           obtain rfl := Option.some.inj H
           have hcz39_0 : wc.cell? ⟨gb103, 0, none⟩ = some (.int .i64 a0_0) := (blk_cell BK103.out 0).trans rfl
           have hcz39_1 : wc.cell? ⟨gb103, 1, none⟩ = some (.string a0_1) := (blk_cell BK103.out 1).trans rfl
           have hcz39_2 : wc.cell? ⟨gb103, 2, none⟩ = some (.string a0_2) := (blk_cell BK103.out 2).trans rfl
           have hcz39_3 : wc.cell? ⟨gb103, 3, none⟩ = some (.int .i64 a0_3) := (blk_cell BK103.out 3).trans rfl
           have hcz39_4 : wc.cell? ⟨gb103, 4, none⟩ = some (.string a0_4) := (blk_cell BK103.out 4).trans rfl
           have hcz39_5 : wc.cell? ⟨gb103, 5, none⟩ = some (.int .i64 a0_5) := (blk_cell BK103.out 5).trans rfl
           have hcz39_6 : wc.cell? ⟨gb103, 6, none⟩ = some (.bool a0_6) := (blk_cell BK103.out 6).trans rfl
           have hcz39_7 : wc.cell? ⟨gb103, 7, none⟩ = some (.int .i64 a0_7) := (blk_cell BK103.out 7).trans rfl
           have hcz39_8 : wc.cell? ⟨gb103, 8, none⟩ = some (.int .i64 a0_8) := (blk_cell BK103.out 8).trans rfl
           have hcz39_9 : wc.cell? ⟨gb103, 9, none⟩ = some (.int .i64 a0_9) := (blk_cell BK103.out 9).trans rfl
           have hfz39_0 := blk_frozen BK103.out 0
           have hfz39_1 := blk_frozen BK103.out 1
           have hfz39_2 := blk_frozen BK103.out 2
           have hfz39_3 := blk_frozen BK103.out 3
           have hfz39_4 := blk_frozen BK103.out 4
           have hfz39_5 := blk_frozen BK103.out 5
           have hfz39_6 := blk_frozen BK103.out 6
           have hfz39_7 := blk_frozen BK103.out 7
           have hfz39_8 := blk_frozen BK103.out 8
           have hfz39_9 := blk_frozen BK103.out 9
           go_wp2_with (first | ((with_reducible refine gate_builtin (b := .append) (xs := #[.tmp 53, .tmp 56]) rfl ?_); at_builtin; refine Kd.R_append Kd.string (w0 := w) w.heap.size rfl (.tmp 53) (.tmp 56) 22 9 (.string ⟨#[]⟩) 16 rfl Tryz.underlying22 info9 rfl (by decide) (by omega) u3 x3_20 a0_2 [.string a0_2] (fun _ => True) (fun _ => False) rfl rfl ?aP (fun _ hk => hk.elim) ?aF ?aO ?aB ?aS ?aL ?_; (case aP => exact rfl); (case aB => exact (by repeat (first | (with_reducible first | exact HB.out | apply below_alloc | apply pw_below_drewN | apply below_drew1 | refine below_set ?_ GE103.out) | exact HB.out))); (case aF => exact (fun _ _ => trivial)); (case aO => exact (by (with_reducible repeat (first | apply Kd.R_alloc | apply Kd.R_drewN | apply Kd.R_drew)); exact HO_3.out)); (case aS => exact (below_size (by repeat (first | (with_reducible first | exact HB.out | apply below_alloc | apply pw_below_drewN | apply below_drew1 | refine below_set ?_ GE103.out) | exact HB.out)))); (case aL => have := LMc38.out; omega); intro v122 w40 ho hb hg hat; rw [← Ny121.out] at ho; have n0_ := Aside0.mk (blk_grown (g := gb103) (o := .cells #[.int .i64 a0_0, .string a0_1, .string a0_2, .int .i64 a0_3, .string a0_4, .int .i64 a0_5, .bool a0_6, .int .i64 a0_7, .int .i64 a0_8, .int .i64 a0_9] 27 (0, 0)) (by (with_reducible repeat (first | refine blk_drewN ?_ _ | refine blk_drew ?_ | refine blk_alloc ?_ _)); exact BK103.out) hg (Kd.R_ne HO_3.out BK103.out (by decide))); have n1_ := Aside0.mk (hb); have n2_ := Aside0.mk (ho); clear BK103; clear HB; clear HO_3; have BK103 := n0_; have HB := n1_; have HO123 := n2_; clear n0_ n1_ n2_; clear ho hb hg hat))
           go_ret
           exact ⟨_, by first | rfl | (simp [errW_none, errW_some] <;> rfl) | (simp only [← hji16]; first | rfl | (simp [errW_none, errW_some] <;> rfl)) | (simp [*, errW_none, errW_some] <;> rfl), by (with_reducible repeat (first | apply Kd.R_alloc | apply Kd.R_drewN | apply Kd.R_drew)); exact HO123.out, by repeat (first | (with_reducible first | exact HB.out | apply below_alloc | apply pw_below_drewN | apply below_drew1 | refine below_set ?_ GE103.out) | exact HB.out)⟩
          ·rw [if_neg c38] at H
           exact absurd H (by simp)
         ·rw [if_neg c37] at H
          have c37b0 : (a0_0 == 6) = false := beq_eq_false_iff_ne.mpr c37
          have c37b1 : (a0_0 != 6) = true := bne_iff_ne.mpr c37
          replace H := Option.bind_eq_some_iff.mp H
          obtain ⟨t124, A410, H⟩ := H
          replace H : (if t124 = true then ((toxic_Text.f a0_4 a0_5 a0_6 a0_7 a0_8 a0_9).bind fun t125 => ((strings_Fields.f t125).bind fun t126 => (if x3_20.length + t126.length < 8796093022208 then (some (x3_20 ++ t126)) else (none)))) else (some x3_20)) = some r := H
          have A41 := Aside0.mk A410
          clear A410
          by_cases c42 : t124 = true
          ·subst c42
           have H1 : ((toxic_Text.f a0_4 a0_5 a0_6 a0_7 a0_8 a0_9).bind fun t125 => ((strings_Fields.f t125).bind fun t126 => (if x3_20.length + t126.length < 8796093022208 then (some (x3_20 ++ t126)) else (none)))) = some r := by rw [if_pos rfl] at H; exact H
           clear H
           have H := H1
           clear H1
           replace H := Option.bind_eq_some_iff.mp H
           obtain ⟨t125, A430, H⟩ := H
           replace H : ((strings_Fields.f t125).bind fun t126 => (if x3_20.length + t126.length < 8796093022208 then (some (x3_20 ++ t126)) else (none))) = some r := H
           have A43 := Aside0.mk A430
           clear A430
           replace H := Option.bind_eq_some_iff.mp H
           obtain ⟨t126, A440, H⟩ := H
           replace H : (if x3_20.length + t126.length < 8796093022208 then (some (x3_20 ++ t126)) else (none)) = some r := H
           have A44 := Aside0.mk A440
           clear A440
           by_cases c45 : x3_20.length + t126.length < 8796093022208
           ·rw [if_pos c45] at H
            have LMc45 := Aside0.mk c45
            clear c45
            obtain ⟨y129, hy129⟩ : ∃ y_ : List ByteArray, y_ = (x3_20 ++ t126) := ⟨_, rfl⟩
            replace H : (some y129) = some r := by first | (rw [hy129]; with_reducible exact H) | (have H2_ := (Option.bind_some _ _).symm.trans H; rw [hy129]; with_reducible exact H2_) | (have H2_ := (Option.bind_some _ _).symm.trans H; with_reducible exact H2_) | with_reducible exact H | (rw [hy129]; exact H) | exact H
            have Ny129 := Aside0.mk hy129
            clear hy129
            obtain rfl := Option.some.inj H
            have hcz46_0 : wc.cell? ⟨gb103, 0, none⟩ = some (.int .i64 a0_0) := (blk_cell BK103.out 0).trans rfl
            have hcz46_1 : wc.cell? ⟨gb103, 1, none⟩ = some (.string a0_1) := (blk_cell BK103.out 1).trans rfl
            have hcz46_2 : wc.cell? ⟨gb103, 2, none⟩ = some (.string a0_2) := (blk_cell BK103.out 2).trans rfl
            have hcz46_3 : wc.cell? ⟨gb103, 3, none⟩ = some (.int .i64 a0_3) := (blk_cell BK103.out 3).trans rfl
            have hcz46_4 : wc.cell? ⟨gb103, 4, none⟩ = some (.string a0_4) := (blk_cell BK103.out 4).trans rfl
            have hcz46_5 : wc.cell? ⟨gb103, 5, none⟩ = some (.int .i64 a0_5) := (blk_cell BK103.out 5).trans rfl
            have hcz46_6 : wc.cell? ⟨gb103, 6, none⟩ = some (.bool a0_6) := (blk_cell BK103.out 6).trans rfl
            have hcz46_7 : wc.cell? ⟨gb103, 7, none⟩ = some (.int .i64 a0_7) := (blk_cell BK103.out 7).trans rfl
            have hcz46_8 : wc.cell? ⟨gb103, 8, none⟩ = some (.int .i64 a0_8) := (blk_cell BK103.out 8).trans rfl
            have hcz46_9 : wc.cell? ⟨gb103, 9, none⟩ = some (.int .i64 a0_9) := (blk_cell BK103.out 9).trans rfl
            have hfz46_0 := blk_frozen BK103.out 0
            have hfz46_1 := blk_frozen BK103.out 1
            have hfz46_2 := blk_frozen BK103.out 2
            have hfz46_3 := blk_frozen BK103.out 3
            have hfz46_4 := blk_frozen BK103.out 4
            have hfz46_5 := blk_frozen BK103.out 5
            have hfz46_6 := blk_frozen BK103.out 6
            have hfz46_7 := blk_frozen BK103.out 7
            have hfz46_8 := blk_frozen BK103.out 8
            have hfz46_9 := blk_frozen BK103.out 9
            go_wp2_with (first | ((with_reducible refine gate_callee (f := 28) rfl ?_); refine goesL_ (some 61) rfl rfl Tryz.func28 (by kernel_rfl) rfl #[.int .i64 a0_0] rfl (by (try simp only [List.map_toArray, List.map_cons, List.map_nil]); first | done | rfl | (simp only [List.length_drop, List.length_take]; rfl)) ?_; (with_reducible refine (order_toxical.calls a0_0 true _ A41.out).mono ?_); rintro e w' ⟨rfl, ⟨nd, rfl⟩⟩; refine ⟨_, rfl, ?_⟩) | ((with_reducible refine gate_callee (f := 37) rfl ?_); refine goesL_ (some 65) rfl rfl Tryz.func37 (by kernel_rfl) rfl #[.agg #[.string a0_4, .int .i64 a0_5, .bool a0_6, .int .i64 a0_7, .int .i64 a0_8, .int .i64 a0_9]] rfl (by (try simp only [List.map_toArray, List.map_cons, List.map_nil]); first | done | rfl | (simp only [List.length_drop, List.length_take]; rfl)) ?_; (with_reducible refine (toxic_Text.calls a0_4 a0_5 a0_6 a0_7 a0_8 a0_9 t125 _ A43.out).mono ?_); rintro e w47 ⟨rfl, hb⟩; refine ⟨_, rfl, ?_⟩; have n0_ := Aside0.mk (Kd.R_below (by (with_reducible repeat (first | apply Kd.R_alloc | apply Kd.R_drewN | apply Kd.R_drew)); exact HO_3.out) hb); have n1_ := Aside0.mk (blk_below (g := gb103) (o := .cells #[.int .i64 a0_0, .string a0_1, .string a0_2, .int .i64 a0_3, .string a0_4, .int .i64 a0_5, .bool a0_6, .int .i64 a0_7, .int .i64 a0_8, .int .i64 a0_9] 27 (0, 0)) (by (with_reducible repeat (first | refine blk_drewN ?_ _ | refine blk_drew ?_ | refine blk_alloc ?_ _)); exact BK103.out) hb); have n2_ := Aside0.mk (below_step (by repeat (first | (with_reducible first | exact HB.out | apply below_alloc | apply pw_below_drewN | apply below_drew1 | refine below_set ?_ GE103.out) | exact HB.out)) hb); clear HO_3; clear BK103; clear HB; have HO_3 := n0_; have BK103 := n1_; have HB := n2_; clear n0_ n1_ n2_; (try clear hb); (try clear hb2); (try clear hk); (try clear hi)) | ((with_reducible refine gate_callee (f := 35) rfl ?_); refine goesL_ (some 66) rfl rfl Tryz.func35 (by kernel_rfl) rfl #[.string t125] rfl (by (try simp only [List.map_toArray, List.map_cons, List.map_nil]); first | done | rfl | (simp only [List.length_drop, List.length_take]; rfl)) ?_; (with_reducible refine (strings_Fields.calls t125 t126 _ (⟨Ext.tab_below hT.out (by repeat (first | (with_reducible first | exact HB.out | apply below_alloc | apply pw_below_drewN | apply below_drew1 | refine below_set ?_ GE103.out) | exact HB.out))⟩) A44.out).mono ?_); rintro e w48 ⟨v127, rfl, ho0, hb⟩; refine ⟨_, rfl, ?_⟩; have n0_ := Aside0.mk (Kd.R_elder' (by (with_reducible repeat (first | apply Kd.R_alloc | apply Kd.R_drewN | apply Kd.R_drew)); exact HO_3.out) (Kd.R_base ho0) hb); have n1_ := Aside0.mk (Kd.R_lower (Kd.R_new' ho0 (Kd.R_lt (by (with_reducible repeat (first | apply Kd.R_alloc | apply Kd.R_drewN | apply Kd.R_drew)); exact HO_3.out))) (below_size (by repeat (first | (with_reducible first | exact HB.out | apply below_alloc | apply pw_below_drewN | apply below_drew1 | refine below_set ?_ GE103.out) | exact HB.out)))); have n2_ := Aside0.mk (blk_below (g := gb103) (o := .cells #[.int .i64 a0_0, .string a0_1, .string a0_2, .int .i64 a0_3, .string a0_4, .int .i64 a0_5, .bool a0_6, .int .i64 a0_7, .int .i64 a0_8, .int .i64 a0_9] 27 (0, 0)) (by (with_reducible repeat (first | refine blk_drewN ?_ _ | refine blk_drew ?_ | refine blk_alloc ?_ _)); exact BK103.out) hb); have n3_ := Aside0.mk (below_step (by repeat (first | (with_reducible first | exact HB.out | apply below_alloc | apply pw_below_drewN | apply below_drew1 | refine below_set ?_ GE103.out) | exact HB.out)) hb); clear HO_3; clear BK103; clear HB; have HO_3 := n0_; have HO128 := n1_; have BK103 := n2_; have HB := n3_; clear n0_ n1_ n2_ n3_; (try clear hb); (try clear hb2); (try clear hk); (try clear hi); (try clear ho0); obtain ⟨Ao50, co50, eo50⟩ := Kd.R_slice HO128.out; subst eo50) | ((with_reducible refine gate_builtin (b := .append) (xs := #[.tmp 62, .tmp 66]) rfl ?_); at_builtin; refine Kd.R_append_rows Kd.string (w0 := w) w.heap.size rfl (.tmp 62) (.tmp 66) 22 9 (.string ⟨#[]⟩) 16 rfl Tryz.underlying22 info9 rfl (by decide) (by omega) u3 x3_20 t126 _ _ _ (fun k_ => some k_ ≠ (.slice Ao50 t126.length co50 : Value).ownBlock) (fun _ => False) rfl rfl ?aO ?aR (fun _ _ h => h) (fun _ h => h.elim) ?aF ?aB ?aS ?aL ?_; (case aR => repeat (first | exact (Kd.R_reads' HO128.out).2.2 | (with_reducible refine Kd.C_alloc ?_ _) | (with_reducible refine Kd.C_drewN ?_ _) | (with_reducible refine Kd.C_drew ?_))); (case aB => exact (by repeat (first | (with_reducible first | exact HB.out | apply below_alloc | apply pw_below_drewN | apply below_drew1 | refine below_set ?_ GE103.out) | exact HB.out))); (case aF => exact (fun k_ hk => Kd.fresh' (Kd.R_lt (by (with_reducible repeat (first | apply Kd.R_alloc | apply Kd.R_drewN | apply Kd.R_drew)); exact HO128.out)) k_ hk)); (case aO => exact (by (with_reducible repeat (first | apply Kd.R_alloc | apply Kd.R_drewN | apply Kd.R_drew)); exact Kd.R_mono HO_3.out (fun _ hk => hk.2))); (case aS => exact (below_size (by repeat (first | (with_reducible first | exact HB.out | apply below_alloc | apply pw_below_drewN | apply below_drew1 | refine below_set ?_ GE103.out) | exact HB.out)))); (case aL => have := LMc45.out; omega); intro v130 w49 ho hb hg hat; rw [← Ny129.out] at ho; have n0_ := Aside0.mk (blk_grown (g := gb103) (o := .cells #[.int .i64 a0_0, .string a0_1, .string a0_2, .int .i64 a0_3, .string a0_4, .int .i64 a0_5, .bool a0_6, .int .i64 a0_7, .int .i64 a0_8, .int .i64 a0_9] 27 (0, 0)) (by (with_reducible repeat (first | refine blk_drewN ?_ _ | refine blk_drew ?_ | refine blk_alloc ?_ _)); exact BK103.out) hg (Kd.R_ne HO_3.out BK103.out (by decide))); have n1_ := Aside0.mk (Kd.R_after (ok := (fun _ => True)) (by (with_reducible repeat (first | apply Kd.R_alloc | apply Kd.R_drewN | apply Kd.R_drew)); exact HO128.out) hg hat); have n2_ := Aside0.mk (hb); have n3_ := Aside0.mk (ho); clear BK103; clear HO128; clear HB; clear HO_3; have BK103 := n0_; have HO128 := n1_; have HB := n2_; have HO131 := n3_; clear n0_ n1_ n2_ n3_; clear ho hb hg hat))
            go_ret
            exact ⟨_, by first | rfl | (simp [errW_none, errW_some] <;> rfl) | (simp only [← hji16]; first | rfl | (simp [errW_none, errW_some] <;> rfl)) | (simp [*, errW_none, errW_some] <;> rfl), by (with_reducible repeat (first | apply Kd.R_alloc | apply Kd.R_drewN | apply Kd.R_drew)); exact Kd.R_mono HO131.out (fun _ hk => trivial), by repeat (first | (with_reducible first | exact HB.out | apply below_alloc | apply pw_below_drewN | apply below_drew1 | refine below_set ?_ GE103.out) | exact HB.out)⟩
           ·rw [if_neg c45] at H
            exact absurd H (by simp)
          ·replace c42 := Bool.eq_false_iff.mpr c42
           subst c42
           have H1 : (some x3_20) = some r := by rw [if_neg (show ¬ (false = true) by decide)] at H; exact H
           clear H
           have H := H1
           clear H1
           obtain rfl := Option.some.inj H
           have hcz51_0 : wc.cell? ⟨gb103, 0, none⟩ = some (.int .i64 a0_0) := (blk_cell BK103.out 0).trans rfl
           have hcz51_1 : wc.cell? ⟨gb103, 1, none⟩ = some (.string a0_1) := (blk_cell BK103.out 1).trans rfl
           have hcz51_2 : wc.cell? ⟨gb103, 2, none⟩ = some (.string a0_2) := (blk_cell BK103.out 2).trans rfl
           have hcz51_3 : wc.cell? ⟨gb103, 3, none⟩ = some (.int .i64 a0_3) := (blk_cell BK103.out 3).trans rfl
           have hcz51_4 : wc.cell? ⟨gb103, 4, none⟩ = some (.string a0_4) := (blk_cell BK103.out 4).trans rfl
           have hcz51_5 : wc.cell? ⟨gb103, 5, none⟩ = some (.int .i64 a0_5) := (blk_cell BK103.out 5).trans rfl
           have hcz51_6 : wc.cell? ⟨gb103, 6, none⟩ = some (.bool a0_6) := (blk_cell BK103.out 6).trans rfl
           have hcz51_7 : wc.cell? ⟨gb103, 7, none⟩ = some (.int .i64 a0_7) := (blk_cell BK103.out 7).trans rfl
           have hcz51_8 : wc.cell? ⟨gb103, 8, none⟩ = some (.int .i64 a0_8) := (blk_cell BK103.out 8).trans rfl
           have hcz51_9 : wc.cell? ⟨gb103, 9, none⟩ = some (.int .i64 a0_9) := (blk_cell BK103.out 9).trans rfl
           have hfz51_0 := blk_frozen BK103.out 0
           have hfz51_1 := blk_frozen BK103.out 1
           have hfz51_2 := blk_frozen BK103.out 2
           have hfz51_3 := blk_frozen BK103.out 3
           have hfz51_4 := blk_frozen BK103.out 4
           have hfz51_5 := blk_frozen BK103.out 5
           have hfz51_6 := blk_frozen BK103.out 6
           have hfz51_7 := blk_frozen BK103.out 7
           have hfz51_8 := blk_frozen BK103.out 8
           have hfz51_9 := blk_frozen BK103.out 9
           go_wp2_with (first | ((with_reducible refine gate_callee (f := 28) rfl ?_); refine goesL_ (some 61) rfl rfl Tryz.func28 (by kernel_rfl) rfl #[.int .i64 a0_0] rfl (by (try simp only [List.map_toArray, List.map_cons, List.map_nil]); first | done | rfl | (simp only [List.length_drop, List.length_take]; rfl)) ?_; (with_reducible refine (order_toxical.calls a0_0 false _ A41.out).mono ?_); rintro e w' ⟨rfl, ⟨nd, rfl⟩⟩; refine ⟨_, rfl, ?_⟩))
           go_ret
           exact ⟨_, by first | rfl | (simp [errW_none, errW_some] <;> rfl) | (simp only [← hji16]; first | rfl | (simp [errW_none, errW_some] <;> rfl)) | (simp [*, errW_none, errW_some] <;> rfl), by (with_reducible repeat (first | apply Kd.R_alloc | apply Kd.R_drewN | apply Kd.R_drew)); exact HO_3.out, by repeat (first | (with_reducible first | exact HB.out | apply below_alloc | apply pw_below_drewN | apply below_drew1 | refine below_set ?_ GE103.out) | exact HB.out)⟩
     ·rw [if_neg c18] at H
      exact absurd H (by simp)
    ·rw [if_neg c17] at H
     exact absurd H (by simp)
end Go.Proofs.YtlglbpjccpdloaaGreatDoor.POrdB
namespace Go.Proofs.YtlglbpjccpdloaaGreatDoor.POrdB
open Go.Proofs.YtlglbpjccpdloaaGreatDoor.Ext Go.Proofs.YtlglbpjccpdloaaGreatDoor.ToxZ Go.Proofs.YtlglbpjccpdloaaGreatDoor.PWrdA Go.RowKit Go.Proofs.YtlglbpjccpdloaaGreatDoorW.PrintWords Go.Proofs.YtlglbpjccpdloaaGreatDoorW.PrintLast Go.Proofs.YtlglbpjccpdloaaGreatDoorW.PrintMore
attribute [local go_sem] max2_int min2_int max_two min_two max_three min_three max_four min_four   -- for this text's walks alone
set_option linter.unusedVariables false
set_option linter.unusedSimpArgs false
private theorem pw_size_mk (l : Array UInt8) : (⟨l⟩ : ByteArray).size = l.size := rfl
mutual
def chicaneref16_toxic.l0 : Nat → List ByteArray → ByteArray → Int → Option (ByteArray × Int × Bool × Int × Int × Int × Int)
 | 0, _, _, _ => none
 | k + 1, x0, x4, x5 => if x5 < (x0.length : Int) then (chicaneref16_toxic.l1 k x0 x4 x5 0) else ((chicaneref09_Parse.f x4).bind fun bt133 => (some (bt133.1, bt133.2.1, bt133.2.2.1, bt133.2.2.2.1, bt133.2.2.2.2.1, bt133.2.2.2.2.2.1, bt133.2.2.2.2.2.2)))
def chicaneref16_toxic.l1 : Nat → List ByteArray → ByteArray → Int → Int → Option (ByteArray × Int × Bool × Int × Int × Int × Int)
 | 0, _, _, _, _ => none
 | k + 1, x0, x4, x5, x6 => if 0 ≤ x5 then (if x5 < (x0.length : Int) then (if x6 < ((rdOf ByteArray.empty x0 x5).size : Int) then (if 0 ≤ x6 then (if (bt (rdOf ByteArray.empty x0 x5) x6) = 32 then (some ((⟨#[]⟩ : ByteArray), 0, false, 0, 0, 0, 90)) else (if (bt (rdOf ByteArray.empty x0 x5) x6) = 9 then (some ((⟨#[]⟩ : ByteArray), 0, false, 0, 0, 0, 90)) else (chicaneref16_toxic.l1 k x0 x4 x5 (wrap64 (x6 + 1))))) else (none)) else (if (rdOf ByteArray.empty x0 x5).toList = ([] : List UInt8) then (some ((⟨#[]⟩ : ByteArray), 0, false, 0, 0, 0, 90)) else (if x5 > 0 then (if x4.size + 1 ≤ 9223372036854775807 then (if (x4 ++ (⟨#[32]⟩ : ByteArray)).size + (rdOf ByteArray.empty x0 x5).size ≤ 9223372036854775807 then (chicaneref16_toxic.l0 k x0 ((x4 ++ (⟨#[32]⟩ : ByteArray)) ++ (rdOf ByteArray.empty x0 x5)) (wrap64 (x5 + 1))) else (none)) else (none)) else (if x4.size + (rdOf ByteArray.empty x0 x5).size ≤ 9223372036854775807 then (chicaneref16_toxic.l0 k x0 (x4 ++ (rdOf ByteArray.empty x0 x5)) (wrap64 (x5 + 1))) else (none))))) else (none)) else (none)
end
def chicaneref16_toxic.f (k : Nat) (l0 : List ByteArray) : Option (ByteArray × Int × Bool × Int × Int × Int × Int) := chicaneref16_toxic.l0 k l0 (⟨#[]⟩ : ByteArray) 0
set_option maxHeartbeats 8000000 in
set_option maxRecDepth 100000 in
theorem chicaneref16_toxic.calls (k : Nat) (A0 : Option Addr) (c0 : Nat) (l0 : List ByteArray) (r1 : ByteArray) (r2 : Int) (r3 : Bool) (r4 : Int) (r5 : Int) (r6 : Int) (r7 : Int) (w : World) (hr0 : Kd.C Kd.string w A0 l0.length l0) (hc0 : l0.length ≤ c0) (h : chicaneref16_toxic.f k l0 = some (r1, r2, r3, r4, r5, r6, r7)) :
  Calls Tryz.prog 33 #[.slice A0 l0.length c0] w fun e w' => e = .returned (.tuple #[.agg #[.string r1, .int .i64 r2, .bool r3, .int .i64 r4, .int .i64 r5, .int .i64 r6], .int .i64 r7]) ∧ Below w.heap.size w w' := by
 have hu25 := Tryz.underlying25
 have HR0 := Aside0.mk hr0
 have HC0 := Aside0.mk hc0
 clear hr0 hc0
 have HB := Aside0.mk (Below.refl w.heap.size w)
 have H : (chicaneref16_toxic.l0 k l0 (⟨#[]⟩ : ByteArray) 0) = some (r1, r2, r3, r4, r5, r6, r7) := h
 clear h
 have H' := Aside0.mk H
 clear H
 go_enter Tryz.func33, Tryz.ntmps33
 go_wp2_with (first | ((with_reducible refine gate_dst (N := 2) rfl ?_); refine box_event ?hg (N := 2) ?hd (cs := #[.string (⟨#[]⟩ : ByteArray), .int .i64 0, .bool false, .int .i64 0, .int .i64 0, .int .i64 0]) (t := 25) ?hr ?_; (case hd => rfl); (case hg => rfl); (case hr => first | (go_simp; done) | (go_simp; rfl)); intro gb132 hg w2 hbox hb; have n0_ := Aside0.mk (below_step (by repeat (first | (with_reducible first | exact HB.out | apply below_alloc | apply pw_below_drewN | apply below_drew1) | exact HB.out)) hb); have n1_ := Aside0.mk (hbox); have n2_ := Aside0.mk ((by rw [hg]; exact (below_size (by repeat (first | (with_reducible first | exact HB.out | apply below_alloc | apply pw_below_drewN | apply below_drew1) | exact HB.out))) : w.heap.size ≤ gb132)); have n3_ := Aside0.mk ((by rw [hg]; exact (below_size (by repeat (first | (with_reducible first | exact HB.out | apply below_alloc | apply pw_below_drewN | apply below_drew1) | exact HB.out))) : w.heap.size ≤ gb132)); clear HB; have HB := n0_; have BK132 := n1_; have GW132 := n2_; have GE132 := n3_; clear n0_ n1_ n2_ n3_; clear hb hbox hg))
 go_loopg [4, 5] k (fun kq v4 v5 w' => ∃ (x4_1 : ByteArray) (x5_1 : Int) (x133000_1 : ByteArray) (x133001_1 : Int) (x133002_1 : Bool) (x133003_1 : Int) (x133004_1 : Int) (x133005_1 : Int), v4 = .string x4_1 ∧ v5 = .int .i64 x5_1 ∧ Aside0 (chicaneref16_toxic.l0 kq l0 x4_1 x5_1 = some (r1, r2, r3, r4, r5, r6, r7)) ∧ Aside0 (kq ≤ k) ∧ Aside0 (w'.heap[gb132]? = some (.cells #[.string x133000_1, .int .i64 x133001_1, .bool x133002_1, .int .i64 x133003_1, .int .i64 x133004_1, .int .i64 x133005_1] 25 (0, 0))) ∧ Aside0 (Below w.heap.size w w'))
 case atStart => exact ⟨((⟨#[]⟩ : ByteArray)), (0), ((⟨#[]⟩ : ByteArray)), (0), (false), (0), (0), (0), (by first | rfl | (simp; done) | (simp [*]; done)), (by first | rfl | (simp; done) | (simp [*]; done)), H', ⟨Nat.le_refl _⟩, ⟨by (with_reducible repeat (first | refine blk_drewN ?_ _ | refine blk_drew ?_ | refine blk_alloc ?_ _)); exact BK132.out⟩, ⟨by repeat (first | (with_reducible first | exact HB.out | apply below_alloc | apply pw_below_drewN | apply below_drew1 | refine below_set ?_ GE132.out) | exact HB.out)⟩⟩
 case round =>
  clear H'
  try clear p2
  obtain ⟨x4_1, x5_1, x133000_1, x133001_1, x133002_1, x133003_1, x133004_1, x133005_1, rfl, rfl, HA, HK1, BK132, HB⟩ := hrel
  cases gk with
  | zero => exact absurd HA.out (by simp [chicaneref16_toxic.l0])
  | succ k1 =>
   have H := HA.out
   clear HA
   simp only [chicaneref16_toxic.l0] at H
   by_cases c3 : x5_1 < (l0.length : Int)
   ·rw [if_pos c3] at H
    have c3b0 : decide (x5_1 < (l0.length : Int)) = true := decide_eq_true c3
    clear c3
    have H' := Aside0.mk H
    clear H
    go_wp2
    go_loopg [6] k1 (fun kq v6 w' => ∃ (x6_2 : Int) (x133000_2 : ByteArray) (x133001_2 : Int) (x133002_2 : Bool) (x133003_2 : Int) (x133004_2 : Int) (x133005_2 : Int), v6 = .int .i64 x6_2 ∧ Aside0 (chicaneref16_toxic.l1 kq l0 x4_1 x5_1 x6_2 = some (r1, r2, r3, r4, r5, r6, r7)) ∧ Aside0 (kq ≤ k1) ∧ Aside0 (w'.heap[gb132]? = some (.cells #[.string x133000_2, .int .i64 x133001_2, .bool x133002_2, .int .i64 x133003_2, .int .i64 x133004_2, .int .i64 x133005_2] 25 (0, 0))) ∧ Aside0 (Below w.heap.size w w'))
    case atStart => exact ⟨(0), (x133000_1), (x133001_1), (x133002_1), (x133003_1), (x133004_1), (x133005_1), (by first | rfl | (simp; done) | (simp [*]; done)), H', ⟨Nat.le_refl _⟩, ⟨by (with_reducible repeat (first | refine blk_drewN ?_ _ | refine blk_drew ?_ | refine blk_alloc ?_ _)); exact BK132.out⟩, ⟨by repeat (first | (with_reducible first | exact HB.out | apply below_alloc | apply pw_below_drewN | apply below_drew1 | refine below_set ?_ GE132.out) | exact HB.out)⟩⟩
    case round =>
     clear H'
     try clear p2
     try clear c3
     try clear c3b0
     try clear p2
     obtain ⟨x6_2, x133000_2, x133001_2, x133002_2, x133003_2, x133004_2, x133005_2, rfl, HA, HK2, BK132, HB⟩ := hrel
     cases gk with
     | zero => exact absurd HA.out (by simp [chicaneref16_toxic.l1])
     | succ k2 =>
      have H := HA.out
      clear HA
      simp only [chicaneref16_toxic.l1] at H
      by_cases c4 : 0 ≤ x5_1
      ·rw [if_pos c4] at H
       have c4b0 : decide (0 ≤ x5_1) = true := decide_eq_true c4
       clear c4
       by_cases c5 : x5_1 < (l0.length : Int)
       ·rw [if_pos c5] at H
        have c5b0 : decide (x5_1 < (l0.length : Int)) = true := decide_eq_true c5
        clear c5
        by_cases c6 : x6_2 < ((rdOf ByteArray.empty l0 x5_1).size : Int)
        ·rw [if_pos c6] at H
         have c6b0 : decide (x6_2 < ((rdOf ByteArray.empty l0 x5_1).size : Int)) = true := decide_eq_true c6
         clear c6
         by_cases c7 : 0 ≤ x6_2
         ·rw [if_pos c7] at H
          have c7b0 : decide (0 ≤ x6_2) = true := decide_eq_true c7
          clear c7
          by_cases c9 : (bt (rdOf ByteArray.empty l0 x5_1) x6_2) = 32
          ·rw [if_pos c9] at H
           have c9b0 : ((bt (rdOf ByteArray.empty l0 x5_1) x6_2) == 32) = true := beq_iff_eq.mpr c9
           have c9b1 : ((bt (rdOf ByteArray.empty l0 x5_1) x6_2) != 32) = false := bne_eq_false_iff_eq.mpr c9
           clear c9
           simp only [Option.some.injEq, Prod.mk.injEq] at H
           obtain ⟨rfl, rfl, rfl, rfl, rfl, rfl, rfl⟩ := H
           have p140 : 0 ≤ (x5_1 : Int) := of_decide_eq_true (by first | (with_reducible assumption) | assumption)
           have q140 : x5_1 < (l0.length : Int) := of_decide_eq_true (by first | (with_reducible assumption) | assumption)
           obtain ⟨ad140, e140, hx140_0⟩ := Kd.at_string HR0.out x5_1 p140 q140
           cases e140
           replace hx140_0 := (HB.out.cell (World.block_lt_of_cell? w _ hx140_0)).trans hx140_0
           replace p140 := eq_true p140
           replace q140 := eq_true q140
           have p141 : 0 ≤ (x5_1 : Int) := of_decide_eq_true (by first | (with_reducible assumption) | assumption)
           have q141 : x5_1 < (l0.length : Int) := of_decide_eq_true (by first | (with_reducible assumption) | assumption)
           obtain ⟨ad141, e141, hx141_0⟩ := Kd.at_string HR0.out x5_1 p141 q141
           obtain rfl : ad140 = ad141 := (by injection e141)
           replace hx141_0 := (HB.out.cell (World.block_lt_of_cell? w _ hx141_0)).trans hx141_0
           replace p141 := eq_true p141
           replace q141 := eq_true q141
           have p8 : 0 ≤ (x6_2 : Int) := of_decide_eq_true (by first | (with_reducible assumption) | assumption)
           have q8 : x6_2 < ((rdOf ByteArray.empty l0 x5_1).size : Int) := of_decide_eq_true (by first | (with_reducible assumption) | assumption)
           have hx8 := bt_at (rdOf ByteArray.empty l0 x5_1) x6_2
           replace p8 := eq_true p8
           replace q8 := eq_true q8
           have hcz10_0 : wr.cell? ⟨gb132, 0, none⟩ = some (.string x133000_2) := (blk_cell BK132.out 0).trans rfl
           have hcz10_1 : wr.cell? ⟨gb132, 1, none⟩ = some (.int .i64 x133001_2) := (blk_cell BK132.out 1).trans rfl
           have hcz10_2 : wr.cell? ⟨gb132, 2, none⟩ = some (.bool x133002_2) := (blk_cell BK132.out 2).trans rfl
           have hcz10_3 : wr.cell? ⟨gb132, 3, none⟩ = some (.int .i64 x133003_2) := (blk_cell BK132.out 3).trans rfl
           have hcz10_4 : wr.cell? ⟨gb132, 4, none⟩ = some (.int .i64 x133004_2) := (blk_cell BK132.out 4).trans rfl
           have hcz10_5 : wr.cell? ⟨gb132, 5, none⟩ = some (.int .i64 x133005_2) := (blk_cell BK132.out 5).trans rfl
           have hfz10_0 := blk_frozen BK132.out 0
           have hfz10_1 := blk_frozen BK132.out 1
           have hfz10_2 := blk_frozen BK132.out 2
           have hfz10_3 := blk_frozen BK132.out 3
           have hfz10_4 := blk_frozen BK132.out 4
           have hfz10_5 := blk_frozen BK132.out 5
           go_wp2
           refine bodyPost_ret (results_ct rfl _ _ gb132 25 #[.string (⟨#[]⟩ : ByteArray), .int .i64 0, .bool false, .int .i64 0, .int .i64 0, .int .i64 0] (0, 0) _ rfl (by (with_reducible repeat (first | refine blk_drewN ?_ _ | refine blk_drew ?_ | refine blk_alloc ?_ _)); refine blk_put (cs := #[.string (⟨#[]⟩ : ByteArray), .int .i64 0, .bool false, .int .i64 0, .int .i64 0, .int .i64 x133005_2]) ?_ 5 _ rfl; (with_reducible repeat (first | refine blk_drewN ?_ _ | refine blk_drew ?_ | refine blk_alloc ?_ _)); refine blk_put (cs := #[.string (⟨#[]⟩ : ByteArray), .int .i64 0, .bool false, .int .i64 0, .int .i64 x133004_2, .int .i64 x133005_2]) ?_ 4 _ rfl; (with_reducible repeat (first | refine blk_drewN ?_ _ | refine blk_drew ?_ | refine blk_alloc ?_ _)); refine blk_put (cs := #[.string (⟨#[]⟩ : ByteArray), .int .i64 0, .bool false, .int .i64 x133003_2, .int .i64 x133004_2, .int .i64 x133005_2]) ?_ 3 _ rfl; (with_reducible repeat (first | refine blk_drewN ?_ _ | refine blk_drew ?_ | refine blk_alloc ?_ _)); refine blk_put (cs := #[.string (⟨#[]⟩ : ByteArray), .int .i64 0, .bool x133002_2, .int .i64 x133003_2, .int .i64 x133004_2, .int .i64 x133005_2]) ?_ 2 _ rfl; (with_reducible repeat (first | refine blk_drewN ?_ _ | refine blk_drew ?_ | refine blk_alloc ?_ _)); refine blk_put (cs := #[.string (⟨#[]⟩ : ByteArray), .int .i64 x133001_2, .bool x133002_2, .int .i64 x133003_2, .int .i64 x133004_2, .int .i64 x133005_2]) ?_ 1 _ rfl; (with_reducible repeat (first | refine blk_drewN ?_ _ | refine blk_drew ?_ | refine blk_alloc ?_ _)); refine blk_put (cs := #[.string x133000_2, .int .i64 x133001_2, .bool x133002_2, .int .i64 x133003_2, .int .i64 x133004_2, .int .i64 x133005_2]) ?_ 0 _ rfl; (with_reducible repeat (first | refine blk_drewN ?_ _ | refine blk_drew ?_ | refine blk_alloc ?_ _)); exact BK132.out) Tryz.underlying25 rfl (by kernel_rfl)) rfl ?_
           exact ⟨by first | rfl | (simp [errW_none, errW_some] <;> rfl) | (simp [*, errW_none, errW_some] <;> rfl), by repeat (first | (with_reducible first | exact HB.out | apply below_alloc | apply pw_below_drewN | apply below_drew1 | refine below_set ?_ GE132.out) | exact HB.out)⟩
          ·rw [if_neg c9] at H
           have c9b0 : ((bt (rdOf ByteArray.empty l0 x5_1) x6_2) == 32) = false := beq_eq_false_iff_ne.mpr c9
           have c9b1 : ((bt (rdOf ByteArray.empty l0 x5_1) x6_2) != 32) = true := bne_iff_ne.mpr c9
           by_cases c12 : (bt (rdOf ByteArray.empty l0 x5_1) x6_2) = 9
           ·rw [if_pos c12] at H
            have c12b0 : ((bt (rdOf ByteArray.empty l0 x5_1) x6_2) == 9) = true := beq_iff_eq.mpr c12
            have c12b1 : ((bt (rdOf ByteArray.empty l0 x5_1) x6_2) != 9) = false := bne_eq_false_iff_eq.mpr c12
            clear c12
            simp only [Option.some.injEq, Prod.mk.injEq] at H
            obtain ⟨rfl, rfl, rfl, rfl, rfl, rfl, rfl⟩ := H
            have p140 : 0 ≤ (x5_1 : Int) := of_decide_eq_true (by first | (with_reducible assumption) | assumption)
            have q140 : x5_1 < (l0.length : Int) := of_decide_eq_true (by first | (with_reducible assumption) | assumption)
            obtain ⟨ad140, e140, hx140_0⟩ := Kd.at_string HR0.out x5_1 p140 q140
            cases e140
            replace hx140_0 := (HB.out.cell (World.block_lt_of_cell? w _ hx140_0)).trans hx140_0
            replace p140 := eq_true p140
            replace q140 := eq_true q140
            have p141 : 0 ≤ (x5_1 : Int) := of_decide_eq_true (by first | (with_reducible assumption) | assumption)
            have q141 : x5_1 < (l0.length : Int) := of_decide_eq_true (by first | (with_reducible assumption) | assumption)
            obtain ⟨ad141, e141, hx141_0⟩ := Kd.at_string HR0.out x5_1 p141 q141
            obtain rfl : ad140 = ad141 := (by injection e141)
            replace hx141_0 := (HB.out.cell (World.block_lt_of_cell? w _ hx141_0)).trans hx141_0
            replace p141 := eq_true p141
            replace q141 := eq_true q141
            have p8 : 0 ≤ (x6_2 : Int) := of_decide_eq_true (by first | (with_reducible assumption) | assumption)
            have q8 : x6_2 < ((rdOf ByteArray.empty l0 x5_1).size : Int) := of_decide_eq_true (by first | (with_reducible assumption) | assumption)
            have hx8 := bt_at (rdOf ByteArray.empty l0 x5_1) x6_2
            replace p8 := eq_true p8
            replace q8 := eq_true q8
            have p142 : 0 ≤ (x5_1 : Int) := of_decide_eq_true (by first | (with_reducible assumption) | assumption)
            have q142 : x5_1 < (l0.length : Int) := of_decide_eq_true (by first | (with_reducible assumption) | assumption)
            obtain ⟨ad142, e142, hx142_0⟩ := Kd.at_string HR0.out x5_1 p142 q142
            obtain rfl : ad140 = ad142 := (by injection e142)
            replace hx142_0 := (HB.out.cell (World.block_lt_of_cell? w _ hx142_0)).trans hx142_0
            replace p142 := eq_true p142
            replace q142 := eq_true q142
            have p11 : 0 ≤ (x6_2 : Int) := of_decide_eq_true (by first | (with_reducible assumption) | assumption)
            have q11 : x6_2 < ((rdOf ByteArray.empty l0 x5_1).size : Int) := of_decide_eq_true (by first | (with_reducible assumption) | assumption)
            have hx11 := bt_at (rdOf ByteArray.empty l0 x5_1) x6_2
            replace p11 := eq_true p11
            replace q11 := eq_true q11
            have hcz13_0 : wr.cell? ⟨gb132, 0, none⟩ = some (.string x133000_2) := (blk_cell BK132.out 0).trans rfl
            have hcz13_1 : wr.cell? ⟨gb132, 1, none⟩ = some (.int .i64 x133001_2) := (blk_cell BK132.out 1).trans rfl
            have hcz13_2 : wr.cell? ⟨gb132, 2, none⟩ = some (.bool x133002_2) := (blk_cell BK132.out 2).trans rfl
            have hcz13_3 : wr.cell? ⟨gb132, 3, none⟩ = some (.int .i64 x133003_2) := (blk_cell BK132.out 3).trans rfl
            have hcz13_4 : wr.cell? ⟨gb132, 4, none⟩ = some (.int .i64 x133004_2) := (blk_cell BK132.out 4).trans rfl
            have hcz13_5 : wr.cell? ⟨gb132, 5, none⟩ = some (.int .i64 x133005_2) := (blk_cell BK132.out 5).trans rfl
            have hfz13_0 := blk_frozen BK132.out 0
            have hfz13_1 := blk_frozen BK132.out 1
            have hfz13_2 := blk_frozen BK132.out 2
            have hfz13_3 := blk_frozen BK132.out 3
            have hfz13_4 := blk_frozen BK132.out 4
            have hfz13_5 := blk_frozen BK132.out 5
            go_wp2
            refine bodyPost_ret (results_ct rfl _ _ gb132 25 #[.string (⟨#[]⟩ : ByteArray), .int .i64 0, .bool false, .int .i64 0, .int .i64 0, .int .i64 0] (0, 0) _ rfl (by (with_reducible repeat (first | refine blk_drewN ?_ _ | refine blk_drew ?_ | refine blk_alloc ?_ _)); refine blk_put (cs := #[.string (⟨#[]⟩ : ByteArray), .int .i64 0, .bool false, .int .i64 0, .int .i64 0, .int .i64 x133005_2]) ?_ 5 _ rfl; (with_reducible repeat (first | refine blk_drewN ?_ _ | refine blk_drew ?_ | refine blk_alloc ?_ _)); refine blk_put (cs := #[.string (⟨#[]⟩ : ByteArray), .int .i64 0, .bool false, .int .i64 0, .int .i64 x133004_2, .int .i64 x133005_2]) ?_ 4 _ rfl; (with_reducible repeat (first | refine blk_drewN ?_ _ | refine blk_drew ?_ | refine blk_alloc ?_ _)); refine blk_put (cs := #[.string (⟨#[]⟩ : ByteArray), .int .i64 0, .bool false, .int .i64 x133003_2, .int .i64 x133004_2, .int .i64 x133005_2]) ?_ 3 _ rfl; (with_reducible repeat (first | refine blk_drewN ?_ _ | refine blk_drew ?_ | refine blk_alloc ?_ _)); refine blk_put (cs := #[.string (⟨#[]⟩ : ByteArray), .int .i64 0, .bool x133002_2, .int .i64 x133003_2, .int .i64 x133004_2, .int .i64 x133005_2]) ?_ 2 _ rfl; (with_reducible repeat (first | refine blk_drewN ?_ _ | refine blk_drew ?_ | refine blk_alloc ?_ _)); refine blk_put (cs := #[.string (⟨#[]⟩ : ByteArray), .int .i64 x133001_2, .bool x133002_2, .int .i64 x133003_2, .int .i64 x133004_2, .int .i64 x133005_2]) ?_ 1 _ rfl; (with_reducible repeat (first | refine blk_drewN ?_ _ | refine blk_drew ?_ | refine blk_alloc ?_ _)); refine blk_put (cs := #[.string x133000_2, .int .i64 x133001_2, .bool x133002_2, .int .i64 x133003_2, .int .i64 x133004_2, .int .i64 x133005_2]) ?_ 0 _ rfl; (with_reducible repeat (first | refine blk_drewN ?_ _ | refine blk_drew ?_ | refine blk_alloc ?_ _)); exact BK132.out) Tryz.underlying25 rfl (by kernel_rfl)) rfl ?_
            exact ⟨by first | rfl | (simp [errW_none, errW_some] <;> rfl) | (simp [*, errW_none, errW_some] <;> rfl), by repeat (first | (with_reducible first | exact HB.out | apply below_alloc | apply pw_below_drewN | apply below_drew1 | refine below_set ?_ GE132.out) | exact HB.out)⟩
           ·rw [if_neg c12] at H
            have c12b0 : ((bt (rdOf ByteArray.empty l0 x5_1) x6_2) == 9) = false := beq_eq_false_iff_ne.mpr c12
            have c12b1 : ((bt (rdOf ByteArray.empty l0 x5_1) x6_2) != 9) = true := bne_iff_ne.mpr c12
            have H' := Aside0.mk H
            clear H
            have p140 : 0 ≤ (x5_1 : Int) := of_decide_eq_true (by first | (with_reducible assumption) | assumption)
            have q140 : x5_1 < (l0.length : Int) := of_decide_eq_true (by first | (with_reducible assumption) | assumption)
            obtain ⟨ad140, e140, hx140_0⟩ := Kd.at_string HR0.out x5_1 p140 q140
            cases e140
            replace hx140_0 := (HB.out.cell (World.block_lt_of_cell? w _ hx140_0)).trans hx140_0
            replace p140 := eq_true p140
            replace q140 := eq_true q140
            have p141 : 0 ≤ (x5_1 : Int) := of_decide_eq_true (by first | (with_reducible assumption) | assumption)
            have q141 : x5_1 < (l0.length : Int) := of_decide_eq_true (by first | (with_reducible assumption) | assumption)
            obtain ⟨ad141, e141, hx141_0⟩ := Kd.at_string HR0.out x5_1 p141 q141
            obtain rfl : ad140 = ad141 := (by injection e141)
            replace hx141_0 := (HB.out.cell (World.block_lt_of_cell? w _ hx141_0)).trans hx141_0
            replace p141 := eq_true p141
            replace q141 := eq_true q141
            have p8 : 0 ≤ (x6_2 : Int) := of_decide_eq_true (by first | (with_reducible assumption) | assumption)
            have q8 : x6_2 < ((rdOf ByteArray.empty l0 x5_1).size : Int) := of_decide_eq_true (by first | (with_reducible assumption) | assumption)
            have hx8 := bt_at (rdOf ByteArray.empty l0 x5_1) x6_2
            replace p8 := eq_true p8
            replace q8 := eq_true q8
            have p142 : 0 ≤ (x5_1 : Int) := of_decide_eq_true (by first | (with_reducible assumption) | assumption)
            have q142 : x5_1 < (l0.length : Int) := of_decide_eq_true (by first | (with_reducible assumption) | assumption)
            obtain ⟨ad142, e142, hx142_0⟩ := Kd.at_string HR0.out x5_1 p142 q142
            obtain rfl : ad140 = ad142 := (by injection e142)
            replace hx142_0 := (HB.out.cell (World.block_lt_of_cell? w _ hx142_0)).trans hx142_0
            replace p142 := eq_true p142
            replace q142 := eq_true q142
            have p11 : 0 ≤ (x6_2 : Int) := of_decide_eq_true (by first | (with_reducible assumption) | assumption)
            have q11 : x6_2 < ((rdOf ByteArray.empty l0 x5_1).size : Int) := of_decide_eq_true (by first | (with_reducible assumption) | assumption)
            have hx11 := bt_at (rdOf ByteArray.empty l0 x5_1) x6_2
            replace p11 := eq_true p11
            replace q11 := eq_true q11
            go_wp2
            go_roundg k2
            case measure => have := HK1.out; have := HK2.out; omega
            case rel => exact ⟨(wrap64 (x6_2 + 1)), (x133000_2), (x133001_2), (x133002_2), (x133003_2), (x133004_2), (x133005_2), (by first | rfl | (simp; done) | (simp [*]; done)), H', ⟨by have := HK1.out; have := HK2.out; omega⟩, ⟨by (with_reducible repeat (first | refine blk_drewN ?_ _ | refine blk_drew ?_ | refine blk_alloc ?_ _)); exact BK132.out⟩, ⟨by repeat (first | (with_reducible first | exact HB.out | apply below_alloc | apply pw_below_drewN | apply below_drew1 | refine below_set ?_ GE132.out) | exact HB.out)⟩⟩
         ·rw [if_neg c7] at H
          exact absurd H (by simp)
        ·rw [if_neg c6] at H
         have c6b0 : decide (x6_2 < ((rdOf ByteArray.empty l0 x5_1).size : Int)) = false := decide_eq_false c6
         clear c6
         by_cases c14 : (rdOf ByteArray.empty l0 x5_1).toList = ([] : List UInt8)
         ·rw [if_pos c14] at H
          have c14b0 : ((rdOf ByteArray.empty l0 x5_1).toList == ([] : List UInt8)) = true := beq_iff_eq.mpr c14
          have c14b1 : ((rdOf ByteArray.empty l0 x5_1).toList != ([] : List UInt8)) = false := bne_eq_false_iff_eq.mpr c14
          clear c14
          simp only [Option.some.injEq, Prod.mk.injEq] at H
          obtain ⟨rfl, rfl, rfl, rfl, rfl, rfl, rfl⟩ := H
          have p140 : 0 ≤ (x5_1 : Int) := of_decide_eq_true (by first | (with_reducible assumption) | assumption)
          have q140 : x5_1 < (l0.length : Int) := of_decide_eq_true (by first | (with_reducible assumption) | assumption)
          obtain ⟨ad140, e140, hx140_0⟩ := Kd.at_string HR0.out x5_1 p140 q140
          cases e140
          replace hx140_0 := (HB.out.cell (World.block_lt_of_cell? w _ hx140_0)).trans hx140_0
          replace p140 := eq_true p140
          replace q140 := eq_true q140
          have p143 : 0 ≤ (x5_1 : Int) := of_decide_eq_true (by first | (with_reducible assumption) | assumption)
          have q143 : x5_1 < (l0.length : Int) := of_decide_eq_true (by first | (with_reducible assumption) | assumption)
          obtain ⟨ad143, e143, hx143_0⟩ := Kd.at_string HR0.out x5_1 p143 q143
          obtain rfl : ad140 = ad143 := (by injection e143)
          replace hx143_0 := (HB.out.cell (World.block_lt_of_cell? w _ hx143_0)).trans hx143_0
          replace p143 := eq_true p143
          replace q143 := eq_true q143
          have hcz15_0 : wr.cell? ⟨gb132, 0, none⟩ = some (.string x133000_2) := (blk_cell BK132.out 0).trans rfl
          have hcz15_1 : wr.cell? ⟨gb132, 1, none⟩ = some (.int .i64 x133001_2) := (blk_cell BK132.out 1).trans rfl
          have hcz15_2 : wr.cell? ⟨gb132, 2, none⟩ = some (.bool x133002_2) := (blk_cell BK132.out 2).trans rfl
          have hcz15_3 : wr.cell? ⟨gb132, 3, none⟩ = some (.int .i64 x133003_2) := (blk_cell BK132.out 3).trans rfl
          have hcz15_4 : wr.cell? ⟨gb132, 4, none⟩ = some (.int .i64 x133004_2) := (blk_cell BK132.out 4).trans rfl
          have hcz15_5 : wr.cell? ⟨gb132, 5, none⟩ = some (.int .i64 x133005_2) := (blk_cell BK132.out 5).trans rfl
          have hfz15_0 := blk_frozen BK132.out 0
          have hfz15_1 := blk_frozen BK132.out 1
          have hfz15_2 := blk_frozen BK132.out 2
          have hfz15_3 := blk_frozen BK132.out 3
          have hfz15_4 := blk_frozen BK132.out 4
          have hfz15_5 := blk_frozen BK132.out 5
          go_wp2
          refine bodyPost_ret (results_ct rfl _ _ gb132 25 #[.string (⟨#[]⟩ : ByteArray), .int .i64 0, .bool false, .int .i64 0, .int .i64 0, .int .i64 0] (0, 0) _ rfl (by (with_reducible repeat (first | refine blk_drewN ?_ _ | refine blk_drew ?_ | refine blk_alloc ?_ _)); refine blk_put (cs := #[.string (⟨#[]⟩ : ByteArray), .int .i64 0, .bool false, .int .i64 0, .int .i64 0, .int .i64 x133005_2]) ?_ 5 _ rfl; (with_reducible repeat (first | refine blk_drewN ?_ _ | refine blk_drew ?_ | refine blk_alloc ?_ _)); refine blk_put (cs := #[.string (⟨#[]⟩ : ByteArray), .int .i64 0, .bool false, .int .i64 0, .int .i64 x133004_2, .int .i64 x133005_2]) ?_ 4 _ rfl; (with_reducible repeat (first | refine blk_drewN ?_ _ | refine blk_drew ?_ | refine blk_alloc ?_ _)); refine blk_put (cs := #[.string (⟨#[]⟩ : ByteArray), .int .i64 0, .bool false, .int .i64 x133003_2, .int .i64 x133004_2, .int .i64 x133005_2]) ?_ 3 _ rfl; (with_reducible repeat (first | refine blk_drewN ?_ _ | refine blk_drew ?_ | refine blk_alloc ?_ _)); refine blk_put (cs := #[.string (⟨#[]⟩ : ByteArray), .int .i64 0, .bool x133002_2, .int .i64 x133003_2, .int .i64 x133004_2, .int .i64 x133005_2]) ?_ 2 _ rfl; (with_reducible repeat (first | refine blk_drewN ?_ _ | refine blk_drew ?_ | refine blk_alloc ?_ _)); refine blk_put (cs := #[.string (⟨#[]⟩ : ByteArray), .int .i64 x133001_2, .bool x133002_2, .int .i64 x133003_2, .int .i64 x133004_2, .int .i64 x133005_2]) ?_ 1 _ rfl; (with_reducible repeat (first | refine blk_drewN ?_ _ | refine blk_drew ?_ | refine blk_alloc ?_ _)); refine blk_put (cs := #[.string x133000_2, .int .i64 x133001_2, .bool x133002_2, .int .i64 x133003_2, .int .i64 x133004_2, .int .i64 x133005_2]) ?_ 0 _ rfl; (with_reducible repeat (first | refine blk_drewN ?_ _ | refine blk_drew ?_ | refine blk_alloc ?_ _)); exact BK132.out) Tryz.underlying25 rfl (by kernel_rfl)) rfl ?_
          exact ⟨by first | rfl | (simp [errW_none, errW_some] <;> rfl) | (simp [*, errW_none, errW_some] <;> rfl), by repeat (first | (with_reducible first | exact HB.out | apply below_alloc | apply pw_below_drewN | apply below_drew1 | refine below_set ?_ GE132.out) | exact HB.out)⟩
         ·rw [if_neg c14] at H
          have c14b0 : ((rdOf ByteArray.empty l0 x5_1).toList == ([] : List UInt8)) = false := beq_eq_false_iff_ne.mpr c14
          have c14b1 : ((rdOf ByteArray.empty l0 x5_1).toList != ([] : List UInt8)) = true := bne_iff_ne.mpr c14
          by_cases c16 : x5_1 > 0
          ·rw [if_pos c16] at H
           have c16b0 : decide (0 < x5_1) = true := decide_eq_true c16
           clear c16
           by_cases c17 : x4_1.size + 1 ≤ 9223372036854775807
           ·rw [if_pos c17] at H
            have c17b0 := eq_true c17
            have c17b1 : decide (x4_1.size + 1 ≤ 9223372036854775807) = true := decide_eq_true c17
            try have c17b2 : (9223372036854775807 < x4_1.size + 1) = False := eq_false (Nat.not_lt.2 c17)
            by_cases c18 : (x4_1 ++ (⟨#[32]⟩ : ByteArray)).size + (rdOf ByteArray.empty l0 x5_1).size ≤ 9223372036854775807
            ·rw [if_pos c18] at H
             have c18b0 := eq_true c18
             have c18b1 : decide ((x4_1 ++ (⟨#[32]⟩ : ByteArray)).size + (rdOf ByteArray.empty l0 x5_1).size ≤ 9223372036854775807) = true := decide_eq_true c18
             try have c18b2 : (9223372036854775807 < (x4_1 ++ (⟨#[32]⟩ : ByteArray)).size + (rdOf ByteArray.empty l0 x5_1).size) = False := eq_false (Nat.not_lt.2 c18)
             try have c18b3 := c18b2
             try simp only [ByteArray.size_append, pw_size_mk, List.size_toArray, List.length_cons, List.length_nil, Nat.zero_add] at c18b3
             have H' := Aside0.mk H
             clear H
             have p140 : 0 ≤ (x5_1 : Int) := of_decide_eq_true (by first | (with_reducible assumption) | assumption)
             have q140 : x5_1 < (l0.length : Int) := of_decide_eq_true (by first | (with_reducible assumption) | assumption)
             obtain ⟨ad140, e140, hx140_0⟩ := Kd.at_string HR0.out x5_1 p140 q140
             cases e140
             replace hx140_0 := (HB.out.cell (World.block_lt_of_cell? w _ hx140_0)).trans hx140_0
             replace p140 := eq_true p140
             replace q140 := eq_true q140
             have p143 : 0 ≤ (x5_1 : Int) := of_decide_eq_true (by first | (with_reducible assumption) | assumption)
             have q143 : x5_1 < (l0.length : Int) := of_decide_eq_true (by first | (with_reducible assumption) | assumption)
             obtain ⟨ad143, e143, hx143_0⟩ := Kd.at_string HR0.out x5_1 p143 q143
             obtain rfl : ad140 = ad143 := (by injection e143)
             replace hx143_0 := (HB.out.cell (World.block_lt_of_cell? w _ hx143_0)).trans hx143_0
             replace p143 := eq_true p143
             replace q143 := eq_true q143
             have p144 : 0 ≤ (x5_1 : Int) := of_decide_eq_true (by first | (with_reducible assumption) | assumption)
             have q144 : x5_1 < (l0.length : Int) := of_decide_eq_true (by first | (with_reducible assumption) | assumption)
             obtain ⟨ad144, e144, hx144_0⟩ := Kd.at_string HR0.out x5_1 p144 q144
             obtain rfl : ad140 = ad144 := (by injection e144)
             replace hx144_0 := (HB.out.cell (World.block_lt_of_cell? w _ hx144_0)).trans hx144_0
             replace p144 := eq_true p144
             replace q144 := eq_true q144
             go_wp2
             go_roundg k2
             case measure => have := HK1.out; have := HK2.out; omega
             case rel => exact ⟨((x4_1 ++ (⟨#[32]⟩ : ByteArray)) ++ (rdOf ByteArray.empty l0 x5_1)), (wrap64 (x5_1 + 1)), (x133000_2), (x133001_2), (x133002_2), (x133003_2), (x133004_2), (x133005_2), (by first | rfl | (simp; done) | (simp [*]; done)), (by first | rfl | (simp; done) | (simp [*]; done)), H', ⟨by have := HK1.out; have := HK2.out; omega⟩, ⟨by (with_reducible repeat (first | refine blk_drewN ?_ _ | refine blk_drew ?_ | refine blk_alloc ?_ _)); exact BK132.out⟩, ⟨by repeat (first | (with_reducible first | exact HB.out | apply below_alloc | apply pw_below_drewN | apply below_drew1 | refine below_set ?_ GE132.out) | exact HB.out)⟩⟩
            ·rw [if_neg c18] at H
             exact absurd H (by simp)
           ·rw [if_neg c17] at H
            exact absurd H (by simp)
          ·rw [if_neg c16] at H
           have c16b0 : decide (0 < x5_1) = false := decide_eq_false c16
           clear c16
           by_cases c19 : x4_1.size + (rdOf ByteArray.empty l0 x5_1).size ≤ 9223372036854775807
           ·rw [if_pos c19] at H
            have c19b0 := eq_true c19
            have c19b1 : decide (x4_1.size + (rdOf ByteArray.empty l0 x5_1).size ≤ 9223372036854775807) = true := decide_eq_true c19
            try have c19b2 : (9223372036854775807 < x4_1.size + (rdOf ByteArray.empty l0 x5_1).size) = False := eq_false (Nat.not_lt.2 c19)
            have H' := Aside0.mk H
            clear H
            have p140 : 0 ≤ (x5_1 : Int) := of_decide_eq_true (by first | (with_reducible assumption) | assumption)
            have q140 : x5_1 < (l0.length : Int) := of_decide_eq_true (by first | (with_reducible assumption) | assumption)
            obtain ⟨ad140, e140, hx140_0⟩ := Kd.at_string HR0.out x5_1 p140 q140
            cases e140
            replace hx140_0 := (HB.out.cell (World.block_lt_of_cell? w _ hx140_0)).trans hx140_0
            replace p140 := eq_true p140
            replace q140 := eq_true q140
            have p143 : 0 ≤ (x5_1 : Int) := of_decide_eq_true (by first | (with_reducible assumption) | assumption)
            have q143 : x5_1 < (l0.length : Int) := of_decide_eq_true (by first | (with_reducible assumption) | assumption)
            obtain ⟨ad143, e143, hx143_0⟩ := Kd.at_string HR0.out x5_1 p143 q143
            obtain rfl : ad140 = ad143 := (by injection e143)
            replace hx143_0 := (HB.out.cell (World.block_lt_of_cell? w _ hx143_0)).trans hx143_0
            replace p143 := eq_true p143
            replace q143 := eq_true q143
            have p145 : 0 ≤ (x5_1 : Int) := of_decide_eq_true (by first | (with_reducible assumption) | assumption)
            have q145 : x5_1 < (l0.length : Int) := of_decide_eq_true (by first | (with_reducible assumption) | assumption)
            obtain ⟨ad145, e145, hx145_0⟩ := Kd.at_string HR0.out x5_1 p145 q145
            obtain rfl : ad140 = ad145 := (by injection e145)
            replace hx145_0 := (HB.out.cell (World.block_lt_of_cell? w _ hx145_0)).trans hx145_0
            replace p145 := eq_true p145
            replace q145 := eq_true q145
            go_wp2
            go_roundg k2
            case measure => have := HK1.out; have := HK2.out; omega
            case rel => exact ⟨(x4_1 ++ (rdOf ByteArray.empty l0 x5_1)), (wrap64 (x5_1 + 1)), (x133000_2), (x133001_2), (x133002_2), (x133003_2), (x133004_2), (x133005_2), (by first | rfl | (simp; done) | (simp [*]; done)), (by first | rfl | (simp; done) | (simp [*]; done)), H', ⟨by have := HK1.out; have := HK2.out; omega⟩, ⟨by (with_reducible repeat (first | refine blk_drewN ?_ _ | refine blk_drew ?_ | refine blk_alloc ?_ _)); exact BK132.out⟩, ⟨by repeat (first | (with_reducible first | exact HB.out | apply below_alloc | apply pw_below_drewN | apply below_drew1 | refine below_set ?_ GE132.out) | exact HB.out)⟩⟩
           ·rw [if_neg c19] at H
            exact absurd H (by simp)
       ·rw [if_neg c5] at H
        exact absurd H (by simp)
      ·rw [if_neg c4] at H
       exact absurd H (by simp)
   ·rw [if_neg c3] at H
    have c3b0 : decide (x5_1 < (l0.length : Int)) = false := decide_eq_false c3
    clear c3
    replace H := Option.bind_eq_some_iff.mp H
    obtain ⟨⟨t133, t134, t135, t136, t137, t138, t139⟩, A200, H⟩ := H
    replace H : (some (t133, t134, t135, t136, t137, t138, t139)) = some (r1, r2, r3, r4, r5, r6, r7) := H
    have A20 := Aside0.mk A200
    clear A200
    simp only [Option.some.injEq, Prod.mk.injEq] at H
    obtain ⟨rfl, rfl, rfl, rfl, rfl, rfl, rfl⟩ := H
    go_wp2_with (first | ((with_reducible refine gate_callee (f := 54) rfl ?_); refine goesL_ (some 56) rfl rfl Tryz.func54 (by kernel_rfl) rfl #[.string x4_1] rfl (by (try simp only [List.map_toArray, List.map_cons, List.map_nil]); first | done | rfl | (simp only [List.length_drop, List.length_take]; rfl)) ?_; (with_reducible refine (chicaneref09_Parse.calls x4_1 t133 t134 t135 t136 t137 t138 t139 _ A20.out).mono ?_); rintro e w21 ⟨rfl, hb⟩; refine ⟨_, rfl, ?_⟩; have n0_ := Aside0.mk (blk_below (g := gb132) (o := .cells #[.string x133000_1, .int .i64 x133001_1, .bool x133002_1, .int .i64 x133003_1, .int .i64 x133004_1, .int .i64 x133005_1] 25 (0, 0)) (by (with_reducible repeat (first | refine blk_drewN ?_ _ | refine blk_drew ?_ | refine blk_alloc ?_ _)); exact BK132.out) hb); have n1_ := Aside0.mk (below_step (by repeat (first | (with_reducible first | exact HB.out | apply below_alloc | apply pw_below_drewN | apply below_drew1 | refine below_set ?_ GE132.out) | exact HB.out)) hb); clear BK132; clear HB; have BK132 := n0_; have HB := n1_; clear n0_ n1_; (try clear hb); (try clear hb2); (try clear hk); (try clear hi); have hcz22_0 : w21.cell? ⟨gb132, 0, none⟩ = some (.string x133000_1) := (blk_cell BK132.out 0).trans rfl; have hcz22_1 : w21.cell? ⟨gb132, 1, none⟩ = some (.int .i64 x133001_1) := (blk_cell BK132.out 1).trans rfl; have hcz22_2 : w21.cell? ⟨gb132, 2, none⟩ = some (.bool x133002_1) := (blk_cell BK132.out 2).trans rfl; have hcz22_3 : w21.cell? ⟨gb132, 3, none⟩ = some (.int .i64 x133003_1) := (blk_cell BK132.out 3).trans rfl; have hcz22_4 : w21.cell? ⟨gb132, 4, none⟩ = some (.int .i64 x133004_1) := (blk_cell BK132.out 4).trans rfl; have hcz22_5 : w21.cell? ⟨gb132, 5, none⟩ = some (.int .i64 x133005_1) := (blk_cell BK132.out 5).trans rfl; have hfz22_0 := blk_frozen BK132.out 0; have hfz22_1 := blk_frozen BK132.out 1; have hfz22_2 := blk_frozen BK132.out 2; have hfz22_3 := blk_frozen BK132.out 3; have hfz22_4 := blk_frozen BK132.out 4; have hfz22_5 := blk_frozen BK132.out 5))
    refine bodyPost_ret (results_ct rfl _ _ gb132 25 #[.string t133, .int .i64 t134, .bool t135, .int .i64 t136, .int .i64 t137, .int .i64 t138] (0, 0) _ rfl (by (with_reducible repeat (first | refine blk_drewN ?_ _ | refine blk_drew ?_ | refine blk_alloc ?_ _)); refine blk_put (cs := #[.string t133, .int .i64 t134, .bool t135, .int .i64 t136, .int .i64 t137, .int .i64 x133005_1]) ?_ 5 _ rfl; (with_reducible repeat (first | refine blk_drewN ?_ _ | refine blk_drew ?_ | refine blk_alloc ?_ _)); refine blk_put (cs := #[.string t133, .int .i64 t134, .bool t135, .int .i64 t136, .int .i64 x133004_1, .int .i64 x133005_1]) ?_ 4 _ rfl; (with_reducible repeat (first | refine blk_drewN ?_ _ | refine blk_drew ?_ | refine blk_alloc ?_ _)); refine blk_put (cs := #[.string t133, .int .i64 t134, .bool t135, .int .i64 x133003_1, .int .i64 x133004_1, .int .i64 x133005_1]) ?_ 3 _ rfl; (with_reducible repeat (first | refine blk_drewN ?_ _ | refine blk_drew ?_ | refine blk_alloc ?_ _)); refine blk_put (cs := #[.string t133, .int .i64 t134, .bool x133002_1, .int .i64 x133003_1, .int .i64 x133004_1, .int .i64 x133005_1]) ?_ 2 _ rfl; (with_reducible repeat (first | refine blk_drewN ?_ _ | refine blk_drew ?_ | refine blk_alloc ?_ _)); refine blk_put (cs := #[.string t133, .int .i64 x133001_1, .bool x133002_1, .int .i64 x133003_1, .int .i64 x133004_1, .int .i64 x133005_1]) ?_ 1 _ rfl; (with_reducible repeat (first | refine blk_drewN ?_ _ | refine blk_drew ?_ | refine blk_alloc ?_ _)); refine blk_put (cs := #[.string x133000_1, .int .i64 x133001_1, .bool x133002_1, .int .i64 x133003_1, .int .i64 x133004_1, .int .i64 x133005_1]) ?_ 0 _ rfl; (with_reducible repeat (first | refine blk_drewN ?_ _ | refine blk_drew ?_ | refine blk_alloc ?_ _)); exact BK132.out) Tryz.underlying25 rfl (by kernel_rfl)) rfl ?_
    exact ⟨by first | rfl | (simp [errW_none, errW_some] <;> rfl) | (simp [*, errW_none, errW_some] <;> rfl), by repeat (first | (with_reducible first | exact HB.out | apply below_alloc | apply pw_below_drewN | apply below_drew1 | refine below_set ?_ GE132.out) | exact HB.out)⟩
end Go.Proofs.YtlglbpjccpdloaaGreatDoor.POrdB
namespace Go.Proofs.YtlglbpjccpdloaaGreatDoor.POrdB
open Go.Proofs.YtlglbpjccpdloaaGreatDoor.Ext Go.Proofs.YtlglbpjccpdloaaGreatDoor.ToxZ Go.Proofs.YtlglbpjccpdloaaGreatDoor.PWrdA Go.RowKit Go.Proofs.YtlglbpjccpdloaaGreatDoorW.PrintWords Go.Proofs.YtlglbpjccpdloaaGreatDoorW.PrintLast Go.Proofs.YtlglbpjccpdloaaGreatDoorW.PrintMore
attribute [local go_sem] max2_int min2_int max_two min_two max_three min_three max_four min_four   -- for this text's walks alone
set_option linter.unusedVariables false
set_option linter.unusedSimpArgs false
mutual
def chicaneref16_Words.j0 : Nat → List ByteArray → Int → Bool → Int → ByteArray → ByteArray → Int → ByteArray → Int → Bool → Int → Int → Int → Option (List ByteArray)
 | 0, _, _, _, _, _, _, _, _, _, _, _, _, _ => none
 | k + 1, x3, x11, x22, x172000, x172001, x172002, x172003, x172004, x172005, x172006, x172007, x172008, x172009 => if x22 = true then (if x3.length < 8796093022208 then (some (x3 ++ [x172001])) else (none)) else (if x11 = 6 then ((some (([x172001, x172002] : List ByteArray) : List ByteArray)).bind fun y191 => (if x3.length + y191.length < 8796093022208 then (some (x3 ++ y191)) else (none))) else (if x11 = 5 then (chicaneref16_Words.j1 k x3 (x11 == 5) x172000 x172001 x172002 x172003 x172004 x172005 x172006 x172007 x172008 x172009) else (chicaneref16_Words.j1 k x3 (x11 == 7) x172000 x172001 x172002 x172003 x172004 x172005 x172006 x172007 x172008 x172009)))
def chicaneref16_Words.j1 : Nat → List ByteArray → Bool → Int → ByteArray → ByteArray → Int → ByteArray → Int → Bool → Int → Int → Int → Option (List ByteArray)
 | 0, _, _, _, _, _, _, _, _, _, _, _, _ => none
 | k + 1, x3, x41, x172000, x172001, x172002, x172003, x172004, x172005, x172006, x172007, x172008, x172009 => if x41 = true then ((chicaneref09_Text.f x172004 x172005 x172006 x172007 x172008 x172009).bind fun t197 => (if t197.toList = ([] : List UInt8) then (some ([] : List ByteArray)) else (if x3.length < 8796093022208 then ((some (x3 ++ [x172001] : List ByteArray)).bind fun y198 => ((chicaneref09_Split.f t197).bind fun t201 => (if y198.length + t201.length < 8796093022208 then (some (y198 ++ t201)) else (none)))) else (none)))) else (some x3)
end
def chicaneref16_Words.f (k : Nat) (a0_0 : Int) (a0_1 : ByteArray) (a0_2 : ByteArray) (a0_3 : Int) (a0_4 : ByteArray) (a0_5 : Int) (a0_6 : Bool) (a0_7 : Int) (a0_8 : Int) (a0_9 : Int) : Option (List ByteArray) := (some (([] : List ByteArray) : List ByteArray)).bind fun y172 => ((chicaneref16_Verb.f a0_0).bind fun t175 => (if y172.length + t175.length < 8796093022208 then ((some (y172 ++ t175 : List ByteArray)).bind fun y178 => (if a0_0 = 1 then ((chicaneref01_Text.f a0_3).bind fun t181 => ((some (([a0_1, t181] : List ByteArray) : List ByteArray)).bind fun y182 => (if y178.length + y182.length < 8796093022208 then (some (y178 ++ y182)) else (none)))) else (if a0_0 = 2 then (chicaneref16_Words.j0 k y178 a0_0 (a0_0 == 2) a0_0 a0_1 a0_2 a0_3 a0_4 a0_5 a0_6 a0_7 a0_8 a0_9) else (if a0_0 = 3 then (chicaneref16_Words.j0 k y178 a0_0 (a0_0 == 3) a0_0 a0_1 a0_2 a0_3 a0_4 a0_5 a0_6 a0_7 a0_8 a0_9) else (if a0_0 = 4 then (chicaneref16_Words.j0 k y178 a0_0 (a0_0 == 4) a0_0 a0_1 a0_2 a0_3 a0_4 a0_5 a0_6 a0_7 a0_8 a0_9) else (chicaneref16_Words.j0 k y178 a0_0 (a0_0 == 9) a0_0 a0_1 a0_2 a0_3 a0_4 a0_5 a0_6 a0_7 a0_8 a0_9)))))) else (none)))
def chicaneref01_Top.f  : Option (Int) := some 1099511627776
def chicaneref01_Near.f (a0 : Int) : Option (Int) := if a0 < 0 then (some 0) else ((chicaneref01_Top.f).bind fun t207 => (if a0 > t207 then ((chicaneref01_Top.f).bind fun t208 => (some t208)) else (some a0)))
end Go.Proofs.YtlglbpjccpdloaaGreatDoor.POrdB
set_option linter.unusedVariables false
set_option linter.unusedSimpArgs false
namespace Go.Proofs.YtlglbpjccpdloaaGreatDoor.Ext
open Go.RowKit Go.Proofs.YtlglbpjccpdloaaGreatDoorW.PrintWords Go.Proofs.YtlglbpjccpdloaaGreatDoorW.PrintLast Go.Proofs.YtlglbpjccpdloaaGreatDoor.PWrdA Go.Proofs.YtlglbpjccpdloaaGreatDoor.ToxZ Go.Proofs.YtlglbpjccpdloaaGreatDoor.Tox Go.Proofs.YtlglbpjccpdloaaGreatDoor.ToxPlain Go.Proofs.YtlglbpjccpdloaaGreatDoor.POrdB Go.Proofs.YtlglbpjccpdloaaGreatDoor.ToxRef
theorem sames_l0 (l m : List ByteArray) (hlm : l.length = m.length) (hl : l.length ≤ 4611686018427387904) : ∀ (k i : Nat), l.length - i < k → i ≤ l.length →
    chicaneref15_Same.l0 k l m (i : Int) = some (decide (l.drop i = m.drop i)) := by
  intro k
  induction k with
  | zero => intro i h; omega
  | succ k ih =>
    intro i h hi
    unfold chicaneref15_Same.l0
    by_cases hil : i < l.length
    · have hd : l.drop i = l[i] :: l.drop (i + 1) := List.drop_eq_getElem_cons hil
      have hd2 : m.drop i = m[i]'(by omega) :: m.drop (i + 1) := List.drop_eq_getElem_cons (by omega)
      rw [if_pos (by omega), if_pos (by omega), if_pos (by omega), rdS_at l i hil, rdS_at m i (by omega), hd, hd2]
      by_cases he : l[i] = m[i]'(by omega)
      · rw [if_pos ((by_toList_iff _ _).2 he), show wrap64 ((i : Int) + 1) = ((i + 1 : Nat) : Int) by unfold wrap64; omega, ih (i + 1) (by omega) (by omega)]
        exact congrArg some (decide_eq_decide.2 ⟨fun h => by rw [he, h], fun h => (List.cons.inj h).2⟩)
      · rw [if_neg (fun h2 => he ((by_toList_iff _ _).1 h2))]
        exact congrArg some (decide_eq_false (fun h => he (List.cons.inj h).1)).symm
    · rw [if_neg (by omega), List.drop_eq_nil_of_le (by omega), List.drop_eq_nil_of_le (by omega)]
      rfl
theorem sames_is (l m : List ByteArray) (hl : l.length ≤ 4611686018427387904) (k : Nat) (hk : l.length < k) : chicaneref15_Same.f k l m = some (decide (l = m)) := by
  unfold chicaneref15_Same.f
  by_cases h : l.length = m.length
  · rw [if_pos (by omega)]
    exact sames_l0 l m h hl k 0 (by omega) (by omega)
  · rw [if_neg (by omega)]
    congr 1
    symm
    exact decide_eq_false (fun he => h (by rw [he]))
theorem begins_is (l w : List ByteArray) (hw : w.length ≤ 1000) (k : Nat) (hk : 1000 < k) : chicaneref16_begins.f k l w = some (decide (Beg l w)) := by
  unfold chicaneref16_begins.f
  by_cases h : w.length ≤ l.length
  · rw [if_pos (by omega), if_pos (by omega), if_pos (by omega), Int.toNat_natCast, sames_is _ _ (by rw [List.length_take]; omega) k (by rw [List.length_take]; omega), Option.bind_some]
    exact congrArg some (decide_eq_decide.2 ⟨fun h2 => ⟨h, h2⟩, fun h2 => h2.2⟩)
  · rw [if_neg (by omega)]
    exact congrArg some (decide_eq_false (fun h2 => h h2.1)).symm
def vb (n : Int) : List ByteArray := if 1 ≤ n ∧ n ≤ 10 then vw.getD (n - 1).toNat [] else []
theorem verb_f (n : Int) : chicaneref16_Verb.f n = some (vb n) := by
  by_cases h : 1 ≤ n ∧ n ≤ 10
  · have h' : n = 1 ∨ n = 2 ∨ n = 3 ∨ n = 4 ∨ n = 5 ∨ n = 6 ∨ n = 7 ∨ n = 8 ∨ n = 9 ∨ n = 10 := by omega
    rcases h' with rfl | rfl | rfl | rfl | rfl | rfl | rfl | rfl | rfl | rfl <;> rfl
  · rw [vb, if_neg h]
    unfold chicaneref16_Verb.f
    rw [if_neg (by omega), if_neg (by omega), if_neg (by omega), if_neg (by omega), if_neg (by omega), if_neg (by omega), if_neg (by omega), if_neg (by omega), if_neg (by omega), if_neg (by omega)]
theorem vb_len (n : Int) : (vb n).length ≤ 2 := by
  by_cases h : 1 ≤ n ∧ n ≤ 10
  · have h' : n = 1 ∨ n = 2 ∨ n = 3 ∨ n = 4 ∨ n = 5 ∨ n = 6 ∨ n = 7 ∨ n = 8 ∨ n = 9 ∨ n = 10 := by omega
    rcases h' with rfl | rfl | rfl | rfl | rfl | rfl | rfl | rfl | rfl | rfl <;> decide
  · rw [vb, if_neg h]; decide
theorem vb_at (k : Nat) (hk : k < vw.length) : vb ((k + 1 : Nat) : Int) = vw[k] := by
  have hk10 : k < 10 := hk
  rw [vb, if_pos (by omega), show (((k + 1 : Nat) : Int) - 1).toNat = k by omega, List.getD_eq_getElem?_getD, List.getElem?_eq_getElem hk]
  rfl
theorem many_is (v : Int) (n : Nat) (k : Nat) : chicaneref16_many.f (k + 1 + 1) v (n : Int) = some (decide (¬ ((n : Int) < (mostOf v).1 ∨ (mostOf v).2 < (n : Int)))) := by
  have j1 : ∀ b : Bool, v ≠ 8 → v ≠ 10 → b = decide (v = 1 ∨ v = 6) → chicaneref16_many.j1 (k + 1) (n : Int) v b = some (decide (¬ ((n : Int) < (mostOf v).1 ∨ (mostOf v).2 < (n : Int)))) := by
    intro b h8 h10 hb
    rw [chicaneref16_many.j1]
    unfold mostOf
    rw [if_neg (show ¬ (v = 8 ∨ v = 10) by omega)]
    by_cases h1 : v = 1 ∨ v = 6
    · rw [if_pos (by rw [hb]; exact decide_eq_true h1), if_neg (show ¬ (v = 5 ∨ v = 7) by omega), if_pos h1]
      congr 1
      rw [Bool.eq_iff_iff]
      simp
      omega
    · rw [if_neg (by rw [hb]; simp [h1])]
      by_cases h5 : v = 5 ∨ v = 7
      · rw [if_pos h5]
        have hx : (if (n : Int) = 6 then some true else some ((n : Int) == 7)) = some (decide (¬ ((n : Int) < 6 ∨ 7 < (n : Int)))) := by
          by_cases hn : (n : Int) = 6
          · rw [if_pos hn]; congr 1; symm; rw [decide_eq_true_eq]; omega
          · rw [if_neg hn]
            congr 1
            rw [Bool.eq_iff_iff]
            simp
            omega
        by_cases h9 : v = 5
        · rw [if_pos h9]; exact hx
        · rw [if_neg h9, if_pos (show v = 7 by omega)]; exact hx
      · rw [if_neg (show ¬ v = 5 by omega), if_neg (show ¬ v = 7 by omega), if_neg h5, if_neg h1]
        congr 1
        rw [Bool.eq_iff_iff]
        simp
        omega
  have j0 : ∀ b : Bool, b = decide (v = 8 ∨ v = 10) → chicaneref16_many.j0 (k + 1 + 1) (n : Int) v b = some (decide (¬ ((n : Int) < (mostOf v).1 ∨ (mostOf v).2 < (n : Int)))) := by
    intro b hb
    rw [chicaneref16_many.j0]
    by_cases h8 : v = 8 ∨ v = 10
    · rw [if_pos (by rw [hb]; exact decide_eq_true h8)]
      unfold mostOf
      rw [if_pos h8]
      congr 1
      rw [Bool.eq_iff_iff]
      simp
    · rw [if_neg (by rw [hb]; simp [h8])]
      by_cases h1 : v = 1
      · rw [if_pos h1]; exact j1 _ (by omega) (by omega) (by subst h1; rfl)
      · rw [if_neg h1]; exact j1 _ (by omega) (by omega) (by rw [Bool.eq_iff_iff]; simp [h1])
  unfold chicaneref16_many.f
  by_cases h8 : v = 8
  · rw [if_pos h8]; exact j0 _ (by subst h8; rfl)
  · rw [if_neg h8]; exact j0 _ (by rw [Bool.eq_iff_iff]; simp [h8])
theorem bt_at (s : ByteArray) (i : Nat) (h : i < s.size) : bt s (i : Int) = (((s[i]'h).toNat : Nat) : Int) := by
  simp [bt, h]
theorem tabs_at (s : ByteArray) (i : Nat) (h : i < s.size) (h2 : ((s[i]'h).toNat : Int) = 32 ∨ ((s[i]'h).toNat : Int) = 9) : hasTab s = true := by
  refine hit_has h ?_
  unfold tabB
  rcases h2 with h2 | h2
  · have : s[i]'h = 32 := UInt8.toNat_inj.1 (by show (s[i]'h).toNat = 32; omega)
    rw [this]; rfl
  · have : s[i]'h = 9 := UInt8.toNat_inj.1 (by show (s[i]'h).toNat = 9; omega)
    rw [this]; rfl
theorem tabs_not (s : ByteArray) (i : Nat) (h : i < s.size) (h2 : ¬ ((s[i]'h).toNat : Int) = 32) (h3 : ¬ ((s[i]'h).toNat : Int) = 9) : tabB (s[i]'h) = false := by
  unfold tabB
  rw [Bool.or_eq_false_iff, beq_eq_false_iff_ne, beq_eq_false_iff_ne]
  constructor
  · intro h9; apply h2; rw [h9]; rfl
  · intro h9; apply h3; rw [h9]; rfl
theorem joined_snoc (L : List ByteArray) (i : Nat) (hi : i < L.length) : joined (L.take (i + 1)) ⟨#[32]⟩ = (if i = 0 then (⟨#[]⟩ : ByteArray) else joined (L.take i) ⟨#[32]⟩ ++ ⟨#[32]⟩) ++ L[i] := by
  apply ByteArray.ext
  apply Array.toList_inj.1
  rw [Cut.joined_data, List.take_add_one, List.getElem?_eq_getElem hi]
  by_cases h0 : i = 0
  · subst h0
    simp [Lib.join_one]
  · rw [if_neg h0, ByteArray.data_append, ByteArray.data_append, Array.toList_append, Array.toList_append, Cut.joined_data]
    have hne : L.take i ≠ [] := by
      intro h9
      have := congrArg List.length h9
      rw [List.length_take, List.length_nil] at this
      omega
    obtain ⟨x, r, hxr⟩ := List.exists_cons_of_ne_nil hne
    rw [hxr]
    simp [Lib.join_cons, Lib.joinTail]
theorem tox_is (L : List ByteArray) (hs : ∀ x ∈ L, x.size ≤ 100000) (hl : L.length ≤ 6) : ∀ (d i : Nat), L.length - i = d → i ≤ L.length → (∀ (j : Nat) (hj : j < L.length), j < i → badW L[j] = false) → ∀ k, d * 100002 + 1 ≤ k →
    chicaneref16_toxic.l0 k L (joined (L.take i) ⟨#[32]⟩) (i : Int) = some (toxW L) := by
  have hsz : ∀ i, (joined (L.take i) (⟨#[32]⟩ : ByteArray)).size ≤ 600006 := by
    intro i
    have h1 := join_le 100000 (L.take i) (fun x hx => hs x (List.mem_of_mem_take hx))
    rw [← Cut.joined_data, Array.length_toList] at h1
    have h2 : (L.take i).length ≤ 6 := by rw [List.length_take]; omega
    exact Nat.le_trans h1 (Nat.le_trans (Nat.mul_le_mul_left _ h2) (by decide))
  intro d
  induction d with
  | zero =>
    intro i hd hi hb k hk
    obtain ⟨k, rfl⟩ : ∃ k', k = k' + 1 := ⟨k - 1, by omega⟩
    unfold chicaneref16_toxic.l0
    rw [if_neg (by omega), List.take_of_length_le (by omega), chicaneref09_Parse.f, if_pos (by have := hsz L.length; rw [List.take_length] at this; omega), Option.bind_some]
    congr 1
    unfold toxW
    rw [if_neg]
    rw [Bool.not_eq_true, List.any_eq_false]
    intro x hx hc
    obtain ⟨j, hj, rfl⟩ := List.getElem_of_mem hx
    rw [hb j hj (by omega)] at hc
    cases hc
  | succ d ih =>
    intro i hd hi hb k hk
    have hil : i < L.length := by omega
    obtain ⟨k, rfl⟩ : ∃ k', k = k' + 1 := ⟨k - 1, by omega⟩
    unfold chicaneref16_toxic.l0
    rw [if_pos (by omega)]
    have hbad : badW L[i] = true → toxW L = (⟨#[]⟩, 0, false, 0, 0, 0, 90) := by
      intro h9
      unfold toxW
      rw [if_pos (List.any_eq_true.2 ⟨_, List.getElem_mem hil, h9⟩)]
    have hxs := hs _ (List.getElem_mem hil)
    have hz := hsz i
    have inner : ∀ (m q : Nat), (L[i]).size - q = m → q ≤ (L[i]).size → NoT L[i] q → ∀ f, d * 100002 + m + 2 ≤ f → chicaneref16_toxic.l1 f L (joined (L.take i) ⟨#[32]⟩) (i : Int) (q : Int) = some (toxW L) := by
      intro m
      induction m with
      | zero =>
        intro q hm hq hn f hf
        obtain ⟨f, rfl⟩ : ∃ f', f = f' + 1 := ⟨f - 1, by omega⟩
        obtain rfl : q = (L[i]).size := by omega
        have htab := noT_has hn
        unfold chicaneref16_toxic.l1
        rw [if_pos (by omega), if_pos (by omega), rdS_at L i hil, if_neg (by omega)]
        by_cases he : (L[i]).toList = []
        · rw [if_pos he, hbad (by unfold badW; rw [(toList_eq_iff _ _).1 (he.trans (by rw [ByteArray.toList_eq] : ([] : List UInt8) = (⟨#[]⟩ : ByteArray).toList))]; rfl)]
        · rw [if_neg he]
          have hnb : badW L[i] = false := by
            unfold badW
            rw [htab, Bool.or_false, decide_eq_false_iff_not]
            intro h0
            apply he
            rw [ByteArray.toList_eq]
            exact List.eq_nil_of_length_eq_zero h0
          have hk9 : d * 100002 + 1 ≤ f := Nat.le_of_succ_le_succ hf
          have hstep := ih (i + 1) (by omega) (by omega) (fun j hj hji => by
            rcases Nat.lt_or_ge j i with h9 | h9
            · exact hb j hj h9
            · obtain rfl : j = i := by omega
              exact hnb) f hk9
          rw [joined_snoc L i hil] at hstep
          rw [show wrap64 ((i : Int) + 1) = ((i + 1 : Nat) : Int) by unfold wrap64; omega]
          by_cases h0 : i = 0
          · rw [if_neg (by omega), if_pos (by omega)]
            rw [if_pos h0] at hstep
            have e0 : joined (L.take i) (⟨#[32]⟩ : ByteArray) = ⟨#[]⟩ := by subst h0; rfl
            rw [e0]
            exact hstep
          · rw [if_pos (by omega), if_pos (by omega), if_pos (by rw [ByteArray.size_append]; show _ + 1 + _ ≤ _; omega)]
            rw [if_neg h0] at hstep
            exact hstep
      | succ m ihm =>
        intro q hm hq hn f hf
        obtain ⟨f, rfl⟩ : ∃ f', f = f' + 1 := ⟨f - 1, by omega⟩
        have hql : q < (L[i]).size := by omega
        unfold chicaneref16_toxic.l1
        rw [if_pos (by omega), if_pos (by omega), rdS_at L i hil, if_pos (by omega), if_pos (by omega), bt_at _ q hql]
        by_cases h32 : (((L[i])[q]'hql).toNat : Int) = 32
        · rw [if_pos h32, hbad (by unfold badW; rw [tabs_at _ q hql (.inl h32), Bool.or_true])]
        · rw [if_neg h32]
          by_cases h9 : (((L[i])[q]'hql).toNat : Int) = 9
          · rw [if_pos h9, hbad (by unfold badW; rw [tabs_at _ q hql (.inr h9), Bool.or_true])]
          · rw [if_neg h9, show wrap64 ((q : Int) + 1) = ((q + 1 : Nat) : Int) by unfold wrap64; omega]
            exact ihm (q + 1) (by omega) (by omega) (noT_succ hn hql (tabs_not _ q hql h32 h9)) f (by omega)
    exact inner (L[i]).size 0 (by omega) (Nat.zero_le _) (fun j hj h => by omega) k (by omega)
theorem rtox_is (L : List ByteArray) (hs : ∀ x ∈ L, x.size ≤ 100000) (hl : L.length ≤ 6) (k : Nat) (hk : 700000 ≤ k) : chicaneref16_toxic.f k L = some (toxW L) :=
  tox_is L hs hl L.length 0 (by omega) (Nat.zero_le _) (fun j hj h => by omega) k (by omega)
end Go.Proofs.YtlglbpjccpdloaaGreatDoor.Ext
set_option linter.unusedVariables false
set_option linter.unusedSimpArgs false
namespace Go.Proofs.YtlglbpjccpdloaaGreatDoor.Ext
open Go.RowKit Go.Shelf Go.Proofs.YtlglbpjccpdloaaGreatDoorW.PrintWords Go.Proofs.YtlglbpjccpdloaaGreatDoorW.PrintLast Go.Proofs.YtlglbpjccpdloaaGreatDoor.PWrdA Go.Proofs.YtlglbpjccpdloaaGreatDoor.ToxZ Go.Proofs.YtlglbpjccpdloaaGreatDoor.Tox Go.Proofs.YtlglbpjccpdloaaGreatDoor.POrdB
def VInv (l : List ByteArray) (j : Nat) (v : Int) : Prop := (v = 0 ∧ ∀ i (hi : i < vw.length), i < j → ¬ Beg l vw[i]) ∨ ∃ i, ∃ hi : i < vw.length, i < j ∧ Beg l vw[i] ∧ v = ((i + 1 : Nat) : Int)
theorem VInv.zero (l : List ByteArray) : VInv l 0 0 := .inl ⟨rfl, fun i hi h => by omega⟩
theorem VInv.yes {l : List ByteArray} {j : Nat} {v : Int} (h : VInv l j v) (hj : j < vw.length) (hb : Beg l vw[j]) : VInv l (j + 1) ((j + 1 : Nat) : Int) := .inr ⟨j, hj, Nat.lt_succ_self j, hb, rfl⟩
theorem VInv.no {l : List ByteArray} {j : Nat} {v : Int} (h : VInv l j v) (hj : j < vw.length) (hb : ¬ Beg l vw[j]) : VInv l (j + 1) v := by
  rcases h with ⟨h0, hv⟩ | ⟨i, hi, hij, hbi, he⟩
  · refine .inl ⟨h0, fun i hi hij => ?_⟩
    rcases Nat.lt_or_ge i j with h9 | h9
    · exact hv i hi h9
    · obtain rfl : i = j := by omega
      exact hb
  · exact .inr ⟨i, hi, by omega, hbi, he⟩
theorem VInv.done {l : List ByteArray} {v : Int} (h : VInv l 10 v) : v = (verbOf l).1 ∧ (v ≠ 0 → (vb v).length ≤ l.length ∧ l.drop (vb v).length = (verbOf l).2) := by
  rcases h with ⟨rfl, hv⟩ | ⟨i, hi, hij, hb, rfl⟩
  · have hn : verbOf l = (0, []) := verbOf_none l (fun w hw hb => by
      obtain ⟨i, hi, rfl⟩ := List.getElem_of_mem hw
      exact hv i hi hi hb)
    exact ⟨by rw [hn], fun h => absurd rfl h⟩
  · have hn := verbOf_at l i hi hb
    exact ⟨by rw [hn], fun _ => ⟨by rw [vb_at i hi]; exact hb.1, by rw [vb_at i hi, hn]⟩⟩
theorem fromW_if (l : List ByteArray) (hl : l ≠ []) (v : Int) (r : List ByteArray) (hv : (verbOf l).1 = v) (hr : (verbOf l).2 = r) : fromW l = if v = 0 then none11 162 else
      if (r.length : Int) < (mostOf v).1 ∨ (mostOf v).2 < (r.length : Int) then none11 161 else
      if v = 8 ∨ v = 10 then (v, ⟨#[]⟩, ⟨#[]⟩, 0, ⟨#[]⟩, 0, false, 0, 0, 0, 0) else
      if v = 1 then (if (tickParse (r.getD 1 ⟨#[]⟩)).2 = 0 then (v, r.getD 0 ⟨#[]⟩, ⟨#[]⟩, (tickParse (r.getD 1 ⟨#[]⟩)).1, ⟨#[]⟩, 0, false, 0, 0, 0, 0) else none11 162) else
      if v = 6 then (v, r.getD 0 ⟨#[]⟩, r.getD 1 ⟨#[]⟩, 0, ⟨#[]⟩, 0, false, 0, 0, 0, 0) else
      if v = 5 ∨ v = 7 then (if (toxW (r.drop 1)).2.2.2.2.2.2 = 0 then (v, r.getD 0 ⟨#[]⟩, ⟨#[]⟩, 0, (toxW (r.drop 1)).1, (toxW (r.drop 1)).2.1, (toxW (r.drop 1)).2.2.1, (toxW (r.drop 1)).2.2.2.1, (toxW (r.drop 1)).2.2.2.2.1, (toxW (r.drop 1)).2.2.2.2.2.1, 0) else none11 (toxW (r.drop 1)).2.2.2.2.2.2)
      else (v, r.getD 0 ⟨#[]⟩, ⟨#[]⟩, 0, ⟨#[]⟩, 0, false, 0, 0, 0, 0) := by
  unfold fromW
  rw [if_neg hl, hv, hr]
set_option maxHeartbeats 4000000 in
set_option maxRecDepth 100000 in
theorem rfw_main (A0 : Option Addr) (c0 : Nat) (l0 : List ByteArray) (hl : l0 ≠ []) (w : World) (hr0 : Kd.C Kd.string w A0 l0.length l0) (hc0 : l0.length ≤ c0) (hm0 : l0.length ≤ 4611686018427387904) (hs : l0.length ≤ 9 → ∀ x ∈ l0, x.size ≤ 100000) :
    Calls Tryz.prog 10 #[.slice A0 l0.length c0] w fun e w' => e = .returned (ordT (fromW l0)) ∧ Below w.heap.size w w' := by
  have q0 : ((l0.length : Int) == 0) = false := by rw [beq_eq_false_iff_ne]; intro h; exact hl (List.length_eq_zero_iff.1 (by omega))
  have HC0 := Lib.hid hc0
  have HR0 := Lib.hid hr0
  have HM0 := Lib.hid hm0
  have HS0 := Lib.hid hs
  have HNE := Lib.hid hl
  clear hl hr0 hc0 hm0 hs
  have HB0 := Lib.hid (below_alloc (Below.refl w.heap.size w) (.cells #[.int .i64 0, .string ⟨#[]⟩, .string ⟨#[]⟩, .int .i64 0, .string ⟨#[]⟩, .int .i64 0, .bool false, .int .i64 0, .int .i64 0, .int .i64 0] 31))
  have HBK0 := Lib.hid (alloc_blk w #[.int .i64 0, .string ⟨#[]⟩, .string ⟨#[]⟩, .int .i64 0, .string ⟨#[]⟩, .int .i64 0, .bool false, .int .i64 0, .int .i64 0, .int .i64 0] 31)
  go_enter Tryz.func10, Tryz.ntmps10
  go_wp2
  go_loopg [4, 5] 10 (fun g v4 v5 wr => ∃ (i : Nat) (v : Int), i + g = 10 ∧ v5 = .int .i64 ((i + 1 : Nat) : Int) ∧ v4 = .int .i64 v ∧ VInv l0 i v ∧ Below w.heap.size w wr ∧ wr.heap[w.heap.size]? = some (.cells #[.int .i64 0, .string ⟨#[]⟩, .string ⟨#[]⟩, .int .i64 0, .string ⟨#[]⟩, .int .i64 0, .bool false, .int .i64 0, .int .i64 0, .int .i64 0] 31 (0, 0)) ∧ Kd.C Kd.string wr A0 l0.length l0)
  case atStart => exact ⟨0, 0, by omega, rfl, rfl, VInv.zero l0, HB0.out, HBK0.out, Kd.C_alloc HR0.out _⟩
  case round =>
    obtain ⟨i, v, hi, rfl, rfl, hv, hb, hbk, hlr⟩ := hrel
    have HBw := Lib.hid hb
    have HBKw := Lib.hid hbk
    have HLw := Lib.hid hlr
    clear hb hbk hlr
    cases gk with
    | succ g =>
      have hil : i < vw.length := by show i < 10; omega
      have q1 : ((i + 1 : Nat) : Int) ≤ 10 := by omega
      have hwr : wrap64 (((i + 1 : Nat) : Int) + 1) = ((i + 1 + 1 : Nat) : Int) := by unfold wrap64; omega
      have hvl := vb_len ((i + 1 : Nat) : Int)
      have hbg := begins_is l0 (vb ((i + 1 : Nat) : Int)) (by omega) 1001 (by decide)
      rw [vb_at i hil] at hbg
      have HI := Lib.hid hi
      have HV := Lib.hid hv
      have hverb := verb_f ((i + 1 : Nat) : Int)
      rw [vb_at i hil] at hverb
      obtain ⟨x, hx⟩ : ∃ x, vw[i] = x := ⟨_, rfl⟩
      rw [hx] at hbg hverb
      have HVB := Lib.hid (fun W => chicaneref16_Verb.calls ((i + 1 : Nat) : Int) x W hverb)
      have HX := Lib.hid hx
      clear hi hv hvl hverb hx
      by_cases hbe : Beg l0 x
      · rw [decide_eq_true hbe] at hbg
        have HBG := Lib.hid hbg
        have HBE := Lib.hid hbe
        clear hbg hbe
        go_wp2_with (first | (go_at_call 20; refine (HVB.out _).mono ?_; rintro e w2 ⟨vv, rfl, ho, hb⟩; have HO := Lib.hid (Kd.R_reads ho); have HB2 := Lib.hid (below_step HBw.out hb); have HBK2 := Lib.hid (blk_below HBKw.out hb); have HL2 := Lib.hid (Kd.C_below HLw.out hb); clear ho hb; obtain ⟨Av, cv, rfl, hcv, hrv⟩ := HO.out; clear HO; have HRV := Lib.hid hrv; have HCV := Lib.hid hcv; clear hrv hcv) | (go_at_call 30; refine (chicaneref16_begins.calls 1001 _ _ l0 _ _ _ true _ HL2.out HC0.out HRV.out HCV.out HBG.out).mono ?_; rintro e w3 ⟨rfl, ⟨nd, rfl⟩⟩))
        go_roundg g
        case measure => omega
        case rel => exact ⟨i + 1, ((i + 1 : Nat) : Int), by have := HI.out; omega, (by first | rfl | (simp [hwr]; done)), rfl, HV.out.yes hil (by rw [HX.out]; exact HBE.out), (by repeat (first | exact HB2.out | apply pw_below_drewN)), (by first | exact HBK2.out), (by repeat (first | exact HL2.out | apply Kd.C_drewN))⟩
      · rw [decide_eq_false hbe] at hbg
        have HBG := Lib.hid hbg
        have HBE := Lib.hid hbe
        clear hbg hbe
        go_wp2_with (first | (go_at_call 20; refine (HVB.out _).mono ?_; rintro e w2 ⟨vv, rfl, ho, hb⟩; have HO := Lib.hid (Kd.R_reads ho); have HB2 := Lib.hid (below_step HBw.out hb); have HBK2 := Lib.hid (blk_below HBKw.out hb); have HL2 := Lib.hid (Kd.C_below HLw.out hb); clear ho hb; obtain ⟨Av, cv, rfl, hcv, hrv⟩ := HO.out; clear HO; have HRV := Lib.hid hrv; have HCV := Lib.hid hcv; clear hrv hcv) | (go_at_call 30; refine (chicaneref16_begins.calls 1001 _ _ l0 _ _ _ false _ HL2.out HC0.out HRV.out HCV.out HBG.out).mono ?_; rintro e w3 ⟨rfl, ⟨nd, rfl⟩⟩))
        go_roundg g
        case measure => omega
        case rel => exact ⟨i + 1, v, by have := HI.out; omega, (by first | rfl | (simp [hwr]; done)), rfl, HV.out.no hil (by rw [HX.out]; exact HBE.out), (by repeat (first | exact HB2.out | apply pw_below_drewN)), (by first | exact HBK2.out), (by repeat (first | exact HL2.out | apply Kd.C_drewN))⟩
    | zero =>
      obtain rfl : i = 10 := by omega
      obtain ⟨hve, hvd⟩ := hv.done
      have HVE := Lib.hid hve.symm
      clear hi hv
      have q1 : ¬ ((10 + 1 : Nat) : Int) ≤ 10 := by decide
      have hF := fromW_if l0 HNE.out v _ HVE.out rfl
      obtain ⟨r, hr⟩ : ∃ r, (verbOf l0).2 = r := ⟨_, rfl⟩
      rw [hr] at hF
      by_cases h0 : v = 0
      · rw [if_pos h0] at hF
        have HF := Lib.hid hF
        have e0 : (v == 0) = true := by rw [beq_iff_eq]; exact h0
        clear hF h0 hvd hve hr
        have z0 : wr.cell? ⟨w.heap.size, 0, none⟩ = some (.int .i64 0) := (blk_cell HBKw.out 0).trans rfl
        have f0 := blk_frozen HBKw.out 0
        have z1 : wr.cell? ⟨w.heap.size, 1, none⟩ = some (.string ⟨#[]⟩) := (blk_cell HBKw.out 1).trans rfl
        have f1 := blk_frozen HBKw.out 1
        have z2 : wr.cell? ⟨w.heap.size, 2, none⟩ = some (.string ⟨#[]⟩) := (blk_cell HBKw.out 2).trans rfl
        have f2 := blk_frozen HBKw.out 2
        have z3 : wr.cell? ⟨w.heap.size, 3, none⟩ = some (.int .i64 0) := (blk_cell HBKw.out 3).trans rfl
        have f3 := blk_frozen HBKw.out 3
        have z4 : wr.cell? ⟨w.heap.size, 4, none⟩ = some (.string ⟨#[]⟩) := (blk_cell HBKw.out 4).trans rfl
        have f4 := blk_frozen HBKw.out 4
        have z5 : wr.cell? ⟨w.heap.size, 5, none⟩ = some (.int .i64 0) := (blk_cell HBKw.out 5).trans rfl
        have f5 := blk_frozen HBKw.out 5
        have z6 : wr.cell? ⟨w.heap.size, 6, none⟩ = some (.bool false) := (blk_cell HBKw.out 6).trans rfl
        have f6 := blk_frozen HBKw.out 6
        have z7 : wr.cell? ⟨w.heap.size, 7, none⟩ = some (.int .i64 0) := (blk_cell HBKw.out 7).trans rfl
        have f7 := blk_frozen HBKw.out 7
        have z8 : wr.cell? ⟨w.heap.size, 8, none⟩ = some (.int .i64 0) := (blk_cell HBKw.out 8).trans rfl
        have f8 := blk_frozen HBKw.out 8
        have z9 : wr.cell? ⟨w.heap.size, 9, none⟩ = some (.int .i64 0) := (blk_cell HBKw.out 9).trans rfl
        have f9 := blk_frozen HBKw.out 9
        go_wp2
        refine bodyPost_ret (Go.Proofs.YtlglbpjccpdloaaGreatDoorW.PrintWords.results_ct rfl _ _ w.heap.size 31 _ (0, 0) _ rfl (ord_put wr w.heap.size 0 ⟨#[]⟩ ⟨#[]⟩ 0 ⟨#[]⟩ 0 false 0 0 0 0 ⟨#[]⟩ ⟨#[]⟩ 0 ⟨#[]⟩ 0 false 0 0 0 _ HBKw.out) Tryz.underlying31 rfl (by kernel_rfl)) rfl ?_
        exact ⟨by rw [HF.out]; rfl, ord_below w wr w.heap.size 0 ⟨#[]⟩ ⟨#[]⟩ 0 ⟨#[]⟩ 0 false 0 0 0 HBw.out (Nat.le_refl _)⟩
      rw [if_neg h0] at hF
      obtain ⟨hvl, hvr⟩ := hvd h0
      rw [hr] at hvr
      have e0 : (v == 0) = false := by rw [beq_eq_false_iff_ne]; exact h0
      obtain ⟨A', hcut, hDr, hDl⟩ := cut_from (A := A0) (n := (vb v).length) hvl HC0.out
      rw [hvr] at hcut hDr hDl
      have HDr := Lib.hid hDr
      have HDl := Lib.hid hDl
      have q2 : ((vb v).length : Int) ≤ (l0.length : Int) := by omega
      have hVB := fun W => chicaneref16_Verb.calls v (vb v) W (verb_f v)
      have HVB := Lib.hid hVB
      have hmany := many_is v r.length 0
      have hrt := verb_tail l0
      rw [hr] at hrt
      have hlong := verb_long l0 (by rw [HVE.out]; exact h0)
      rw [hr] at hlong
      have hrs : r.length ≤ 7 → ∀ x ∈ r, x.size ≤ 100000 := fun h7 x hx => HS0.out (by omega) x (hrt x hx)
      have h10 : 1 ≤ v ∧ v ≤ 10 := by
        rcases verbOf_range l0 with h | ⟨k, hk, h⟩
        · rw [h] at hve; exact absurd hve h0
        · rw [← hve] at h; omega
      clear hVB hDr hDl hvl hvr hvd hr hrt hlong
      by_cases hbad : (r.length : Int) < (mostOf v).1 ∨ (mostOf v).2 < (r.length : Int)
      · rw [if_pos hbad] at hF
        rw [show decide (¬ ((r.length : Int) < (mostOf v).1 ∨ (mostOf v).2 < (r.length : Int))) = false by simp only [hbad]; decide] at hmany
        have HMN := Lib.hid (fun W => chicaneref16_many.calls _ v (r.length : Int) false W hmany)
        have HF := Lib.hid hF
        clear hF hmany hbad hrs h0 h10 hve
        go_wp2_with (first | (go_at_call 20; refine (HVB.out _).mono ?_; rintro e w2 ⟨vv, rfl, ho, hb⟩; have HO := Lib.hid (Kd.R_reads ho); have HB2 := Lib.hid (below_step HBw.out hb); have HBK2 := Lib.hid (blk_below HBKw.out hb); have HL2 := Lib.hid (Kd.C_below HLw.out hb); clear ho hb; obtain ⟨Av, cv, rfl, hcv, hrv⟩ := HO.out; clear HO hcv hrv; have z0 : w2.cell? ⟨w.heap.size, 0, none⟩ = some (.int .i64 0) := (blk_cell HBK2.out 0).trans rfl; have f0 := blk_frozen HBK2.out 0; have z1 : w2.cell? ⟨w.heap.size, 1, none⟩ = some (.string ⟨#[]⟩) := (blk_cell HBK2.out 1).trans rfl; have f1 := blk_frozen HBK2.out 1; have z2 : w2.cell? ⟨w.heap.size, 2, none⟩ = some (.string ⟨#[]⟩) := (blk_cell HBK2.out 2).trans rfl; have f2 := blk_frozen HBK2.out 2; have z3 : w2.cell? ⟨w.heap.size, 3, none⟩ = some (.int .i64 0) := (blk_cell HBK2.out 3).trans rfl; have f3 := blk_frozen HBK2.out 3; have z4 : w2.cell? ⟨w.heap.size, 4, none⟩ = some (.string ⟨#[]⟩) := (blk_cell HBK2.out 4).trans rfl; have f4 := blk_frozen HBK2.out 4; have z5 : w2.cell? ⟨w.heap.size, 5, none⟩ = some (.int .i64 0) := (blk_cell HBK2.out 5).trans rfl; have f5 := blk_frozen HBK2.out 5; have z6 : w2.cell? ⟨w.heap.size, 6, none⟩ = some (.bool false) := (blk_cell HBK2.out 6).trans rfl; have f6 := blk_frozen HBK2.out 6; have z7 : w2.cell? ⟨w.heap.size, 7, none⟩ = some (.int .i64 0) := (blk_cell HBK2.out 7).trans rfl; have f7 := blk_frozen HBK2.out 7; have z8 : w2.cell? ⟨w.heap.size, 8, none⟩ = some (.int .i64 0) := (blk_cell HBK2.out 8).trans rfl; have f8 := blk_frozen HBK2.out 8; have z9 : w2.cell? ⟨w.heap.size, 9, none⟩ = some (.int .i64 0) := (blk_cell HBK2.out 9).trans rfl; have f9 := blk_frozen HBK2.out 9) | (go_at_call 31; refine (HMN.out _).mono ?_; rintro e w3 ⟨rfl, ⟨nd, rfl⟩⟩))
        refine bodyPost_ret (Go.Proofs.YtlglbpjccpdloaaGreatDoorW.PrintWords.results_ct rfl _ _ w.heap.size 31 _ (0, 0) _ rfl (ord_put (w2.drewN nd) w.heap.size 0 ⟨#[]⟩ ⟨#[]⟩ 0 ⟨#[]⟩ 0 false 0 0 0 0 ⟨#[]⟩ ⟨#[]⟩ 0 ⟨#[]⟩ 0 false 0 0 0 _ HBK2.out) Tryz.underlying31 rfl (by kernel_rfl)) rfl ?_
        exact ⟨by rw [HF.out]; rfl, ord_below w (w2.drewN nd) w.heap.size 0 ⟨#[]⟩ ⟨#[]⟩ 0 ⟨#[]⟩ 0 false 0 0 0 (by repeat (first | exact HB2.out | apply pw_below_drewN)) (Nat.le_refl _)⟩
      rw [if_neg hbad] at hF
      rw [show decide (¬ ((r.length : Int) < (mostOf v).1 ∨ (mostOf v).2 < (r.length : Int))) = true by simp only [hbad]; decide] at hmany
      have HMN := Lib.hid (fun W => chicaneref16_many.calls _ v (r.length : Int) true W hmany)
      clear hmany
      have HF0 := Lib.hid hF
      have HBAD := Lib.hid hbad
      have HRS := Lib.hid hrs
      have H10 := Lib.hid h10
      clear hF hbad hrs h0 h10 hve
      go_upto_if 43 with (first | (go_at_call 20; refine (HVB.out _).mono ?_; rintro e w2 ⟨vv, rfl, ho, hb⟩; have HO := Lib.hid (Kd.R_reads ho); have HB2 := Lib.hid (below_step HBw.out hb); have HBK2 := Lib.hid (blk_below HBKw.out hb); have HL2 := Lib.hid (Kd.C_below HLw.out hb); clear ho hb; obtain ⟨Av, cv, rfl, hcv, hrv⟩ := HO.out; clear HO hcv hrv; have HRr := Lib.hid (HDr.out _ HL2.out)) | (go_at_call 31; refine (HMN.out _).mono ?_; rintro e w3 ⟨rfl, hd⟩; have HB3 := Lib.hid (show Below w.heap.size w w3 by obtain ⟨n, rfl⟩ := hd; exact pw_below_drewN HB2.out _); have HBK3 := Lib.hid (show w3.heap[w.heap.size]? = _ by obtain ⟨n, rfl⟩ := hd; exact HBK2.out); have HR3 := Lib.hid (show Kd.C Kd.string w3 A' r.length r by obtain ⟨n, rfl⟩ := hd; exact Kd.C_drewN HRr.out _); clear hd))
      (try simp only [Act.put, List.setIfInBounds_toArray, List.set_cons_zero, List.set_cons_succ])
      refine gen_world (fun W => W.heap[w.heap.size]? = some (.cells #[.int .i64 0, .string ⟨#[]⟩, .string ⟨#[]⟩, .int .i64 0, .string ⟨#[]⟩, .int .i64 0, .bool false, .int .i64 0, .int .i64 0, .int .i64 0] 31 (0, 0)) ∧ W.heap[w3.heap.size]? = some (.cells #[.int .i64 v, .string ⟨#[]⟩, .string ⟨#[]⟩, .int .i64 0, .string ⟨#[]⟩, .int .i64 0, .bool false, .int .i64 0, .int .i64 0, .int .i64 0] 31 (0, 0)) ∧ Below w.heap.size w W ∧ Kd.C Kd.string W A' r.length r) ⟨blk_alloc (o := .cells _ _) HBK3.out _, alloc_blk w3 _ _, below_alloc HB3.out _, Kd.C_alloc HR3.out _⟩ (fun w9 h9 => ?_)
      have HGL := Lib.hid (show w.heap.size < w3.heap.size from blk_lt HBK3.out)
      have HZ9 := Lib.hid h9.1
      have HO9 := Lib.hid h9.2.1
      have HB9 := Lib.hid h9.2.2.1
      have HR9 := Lib.hid h9.2.2.2
      clear h9
      have hmo : mostOf v = if v = 8 ∨ v = 10 then (0, 0) else if v = 5 ∨ v = 7 then (6, 7) else if v = 1 ∨ v = 6 then (2, 2) else (1, 1) := rfl
      by_cases h8 : v = 8 ∨ v = 10
      · have HF := Lib.hid (HF0.out.trans (if_pos h8))
        have hr0 : r.length = 0 := by
          refine Classical.byContradiction fun h9 => HBAD.out (.inr ?_)
          rw [hmo, if_pos h8]
          show (0 : Int) < (r.length : Int)
          omega
        have q4 : decide (0 < r.length) = false := decide_eq_false (by omega)
        rw [q4]
        have e1 : (v == 1) = false := by rw [beq_eq_false_iff_ne]; omega
        have e6 : (v == 6) = false := by rw [beq_eq_false_iff_ne]; omega
        have e5 : (v == 5) = false := by rw [beq_eq_false_iff_ne]; omega
        have e7 : (v == 7) = false := by rw [beq_eq_false_iff_ne]; omega
        clear h8 hmo hr0
        have y0 : w9.cell? ⟨w3.heap.size, 0, none⟩ = some (.int .i64 v) := (blk_cell HO9.out 0).trans rfl
        have fy0 := blk_frozen HO9.out 0
        have y1 : w9.cell? ⟨w3.heap.size, 1, none⟩ = some (.string ⟨#[]⟩) := (blk_cell HO9.out 1).trans rfl
        have fy1 := blk_frozen HO9.out 1
        have y2 : w9.cell? ⟨w3.heap.size, 2, none⟩ = some (.string ⟨#[]⟩) := (blk_cell HO9.out 2).trans rfl
        have fy2 := blk_frozen HO9.out 2
        have y3 : w9.cell? ⟨w3.heap.size, 3, none⟩ = some (.int .i64 0) := (blk_cell HO9.out 3).trans rfl
        have fy3 := blk_frozen HO9.out 3
        have y4 : w9.cell? ⟨w3.heap.size, 4, none⟩ = some (.string ⟨#[]⟩) := (blk_cell HO9.out 4).trans rfl
        have fy4 := blk_frozen HO9.out 4
        have y5 : w9.cell? ⟨w3.heap.size, 5, none⟩ = some (.int .i64 0) := (blk_cell HO9.out 5).trans rfl
        have fy5 := blk_frozen HO9.out 5
        have y6 : w9.cell? ⟨w3.heap.size, 6, none⟩ = some (.bool false) := (blk_cell HO9.out 6).trans rfl
        have fy6 := blk_frozen HO9.out 6
        have y7 : w9.cell? ⟨w3.heap.size, 7, none⟩ = some (.int .i64 0) := (blk_cell HO9.out 7).trans rfl
        have fy7 := blk_frozen HO9.out 7
        have y8 : w9.cell? ⟨w3.heap.size, 8, none⟩ = some (.int .i64 0) := (blk_cell HO9.out 8).trans rfl
        have fy8 := blk_frozen HO9.out 8
        have y9 : w9.cell? ⟨w3.heap.size, 9, none⟩ = some (.int .i64 0) := (blk_cell HO9.out 9).trans rfl
        have fy9 := blk_frozen HO9.out 9
        have z0 : w9.cell? ⟨w.heap.size, 0, none⟩ = some (.int .i64 0) := (blk_cell HZ9.out 0).trans rfl
        have f0 := blk_frozen HZ9.out 0
        have z1 : w9.cell? ⟨w.heap.size, 1, none⟩ = some (.string ⟨#[]⟩) := (blk_cell HZ9.out 1).trans rfl
        have f1 := blk_frozen HZ9.out 1
        have z2 : w9.cell? ⟨w.heap.size, 2, none⟩ = some (.string ⟨#[]⟩) := (blk_cell HZ9.out 2).trans rfl
        have f2 := blk_frozen HZ9.out 2
        have z3 : w9.cell? ⟨w.heap.size, 3, none⟩ = some (.int .i64 0) := (blk_cell HZ9.out 3).trans rfl
        have f3 := blk_frozen HZ9.out 3
        have z4 : w9.cell? ⟨w.heap.size, 4, none⟩ = some (.string ⟨#[]⟩) := (blk_cell HZ9.out 4).trans rfl
        have f4 := blk_frozen HZ9.out 4
        have z5 : w9.cell? ⟨w.heap.size, 5, none⟩ = some (.int .i64 0) := (blk_cell HZ9.out 5).trans rfl
        have f5 := blk_frozen HZ9.out 5
        have z6 : w9.cell? ⟨w.heap.size, 6, none⟩ = some (.bool false) := (blk_cell HZ9.out 6).trans rfl
        have f6 := blk_frozen HZ9.out 6
        have z7 : w9.cell? ⟨w.heap.size, 7, none⟩ = some (.int .i64 0) := (blk_cell HZ9.out 7).trans rfl
        have f7 := blk_frozen HZ9.out 7
        have z8 : w9.cell? ⟨w.heap.size, 8, none⟩ = some (.int .i64 0) := (blk_cell HZ9.out 8).trans rfl
        have f8 := blk_frozen HZ9.out 8
        have z9 : w9.cell? ⟨w.heap.size, 9, none⟩ = some (.int .i64 0) := (blk_cell HZ9.out 9).trans rfl
        have f9 := blk_frozen HZ9.out 9
        go_wp2
        refine bodyPost_ret (Go.Proofs.YtlglbpjccpdloaaGreatDoorW.PrintWords.results_ct rfl _ _ w.heap.size 31 _ (0, 0) _ rfl (ord_put w9 w.heap.size 0 ⟨#[]⟩ ⟨#[]⟩ 0 ⟨#[]⟩ 0 false 0 0 0 v ⟨#[]⟩ ⟨#[]⟩ 0 ⟨#[]⟩ 0 false 0 0 0 _ HZ9.out) Tryz.underlying31 rfl (by kernel_rfl)) rfl ?_
        exact ⟨by rw [HF.out]; rfl, ord_below w w9 w.heap.size v ⟨#[]⟩ ⟨#[]⟩ 0 ⟨#[]⟩ 0 false 0 0 0 HB9.out (Nat.le_refl _)⟩
      have hr1 : 0 < r.length := by
        refine Classical.byContradiction fun h9 => HBAD.out (.inl ?_)
        rw [hmo, if_neg h8]
        split
        · show (r.length : Int) < 6; omega
        · split <;> (show (r.length : Int) < _; omega)
      have hr7 : r.length ≤ 7 := by
        refine Classical.byContradiction fun h9 => HBAD.out (.inr ?_)
        rw [hmo, if_neg h8]
        split
        · show 7 < (r.length : Int); omega
        · split <;> (show _ < (r.length : Int); omega)
      have HR1 := Lib.hid hr1
      obtain ⟨p, hp⟩ : ∃ p, r.getD 0 ⟨#[]⟩ = p := ⟨_, rfl⟩
      obtain ⟨ad, ha, hx⟩ := Kd.at_string HR9.out 0 (by omega) (by omega)
      cases ha
      have hx1 : w9.cell? ad = some (.string p) := by
        have h9 := hx
        rw [show ad.add (0 : Int).toNat = ad by simp [Addr.add]] at h9
        rw [h9, show (0 : Int) = ((0 : Nat) : Int) from rfl, rdS_at r 0 hr1, ← hp, List.getD_eq_getElem?_getD, List.getElem?_eq_getElem hr1]
        rfl
      have q7 : (0 : Int) < (r.length : Int) := by omega
      have q4 : decide (0 < r.length) = true := decide_eq_true hr1
      rw [q4]
      have HMO := Lib.hid hmo
      have H8 := Lib.hid h8
      have HR7 := Lib.hid hr7
      have HP0 := Lib.hid hp
      clear hmo h8 hr7 hp hx
      have y1 : w9.cell? ⟨w3.heap.size, 1, none⟩ = some (.string ⟨#[]⟩) := (blk_cell HO9.out 1).trans rfl
      have fy1 := blk_frozen HO9.out 1
      go_upto_if 49 with (fail)
      (try simp only [Act.put, List.setIfInBounds_toArray, List.set_cons_zero, List.set_cons_succ])
      refine gen_world (fun W => W.heap[w.heap.size]? = some (.cells #[.int .i64 0, .string ⟨#[]⟩, .string ⟨#[]⟩, .int .i64 0, .string ⟨#[]⟩, .int .i64 0, .bool false, .int .i64 0, .int .i64 0, .int .i64 0] 31 (0, 0)) ∧ W.heap[w3.heap.size]? = some (.cells #[.int .i64 v, .string p, .string ⟨#[]⟩, .int .i64 0, .string ⟨#[]⟩, .int .i64 0, .bool false, .int .i64 0, .int .i64 0, .int .i64 0] 31 (0, 0)) ∧ Below w.heap.size w W) ⟨blk_far HZ9.out (Nat.ne_of_lt HGL.out) _, (blk_set HO9.out 1 (.string p)).trans rfl, below_set HB9.out (Nat.le_of_lt HGL.out)⟩ (fun w10 h10 => ?_)
      have HZw10 := Lib.hid h10.1
      have HOw10 := Lib.hid h10.2.1
      have HBw10 := Lib.hid h10.2.2
      clear h10
      have HRw10 := Lib.hid (HDr.out _ (Kd.C_below HR0.out HBw10.out))
      clear hx1 y1 fy1
      by_cases h1 : v = 1
      · have hr2 : 1 < r.length := by
          refine Classical.byContradiction fun h9 => HBAD.out (.inl ?_)
          rw [HMO.out, if_neg H8.out, if_neg (by omega), if_pos (.inl h1)]
          show (r.length : Int) < 2
          omega
        obtain ⟨s, hs⟩ : ∃ s, r.getD 1 ⟨#[]⟩ = s := ⟨_, rfl⟩
        obtain ⟨ad', ha, hx⟩ := Kd.at_string HRw10.out 1 (by omega) (by omega)
        cases ha
        have hx2 : w10.cell? ⟨ad.block, ad.off + 1, none⟩ = some (.string s) := by
          have h9 := hx
          rw [show ad.add (1 : Int).toNat = (⟨ad.block, ad.off + 1, none⟩ : Addr) from rfl] at h9
          rw [h9, show (1 : Int) = ((1 : Nat) : Int) from rfl, rdS_at r 1 hr2, ← hs, List.getD_eq_getElem?_getD, List.getElem?_eq_getElem hr2]
          rfl
        have q8 : (1 : Int) < (r.length : Int) := by omega
        have hsz : s.size ≤ 100000 := by rw [← hs, List.getD_eq_getElem?_getD, List.getElem?_eq_getElem hr2]; exact HRS.out HR7.out _ (List.getElem_mem hr2)
        obtain ⟨n, hn⟩ : ∃ n, (tickParse s).1 = n := ⟨_, rfl⟩
        obtain ⟨en, hen⟩ : ∃ n, (tickParse s).2 = n := ⟨_, rfl⟩
        have HP := Lib.hid (fun W => ToxZ.chicaneref01_Parse.calls s n en W (by unfold ToxZ.chicaneref01_Parse.f; rw [if_pos (by omega), ← hn, ← hen]))
        have hF1 : fromW l0 = if en = 0 then (v, p, ⟨#[]⟩, n, ⟨#[]⟩, 0, false, 0, 0, 0, 0) else none11 162 := HF0.out.trans (by rw [if_neg H8.out, if_pos h1, HP0.out, hs, hn, hen])
        have e1 : (v == 1) = true := by rw [beq_iff_eq]; omega
        have e6 : (v == 6) = false := by rw [beq_eq_false_iff_ne]; omega
        have e5 : (v == 5) = false := by rw [beq_eq_false_iff_ne]; omega
        have e7 : (v == 7) = false := by rw [beq_eq_false_iff_ne]; omega
        clear hs hn hen hsz hx
        by_cases he : en = 0
        · have HF := Lib.hid (hF1.trans (if_pos he))
          have e58 : (en != 0) = false := by rw [bne_eq_false_iff_eq]; exact he
          clear hF1 he h1
          go_upto_region 29 with (first | (go_at_call 32; refine (HP.out _).mono ?_; rintro e w11 ⟨rfl, hb⟩; have HZ1 := Lib.hid (blk_below HZw10.out hb); have HO1 := Lib.hid (blk_below HOw10.out hb); have HB1 := Lib.hid (below_step HBw10.out hb); clear hb; have y3 : w11.cell? ⟨w3.heap.size, 3, none⟩ = some (.int .i64 0) := (blk_cell HO1.out 3).trans rfl; have fy3 := blk_frozen HO1.out 3))
          (try simp only [Act.put, List.setIfInBounds_toArray, List.set_cons_zero, List.set_cons_succ])
          refine gen_world (fun W => W.heap[w.heap.size]? = some (.cells #[.int .i64 0, .string ⟨#[]⟩, .string ⟨#[]⟩, .int .i64 0, .string ⟨#[]⟩, .int .i64 0, .bool false, .int .i64 0, .int .i64 0, .int .i64 0] 31 (0, 0)) ∧ W.heap[w3.heap.size]? = some (.cells #[.int .i64 v, .string p, .string ⟨#[]⟩, .int .i64 n, .string ⟨#[]⟩, .int .i64 0, .bool false, .int .i64 0, .int .i64 0, .int .i64 0] 31 (0, 0)) ∧ Below w.heap.size w W) ⟨blk_far HZ1.out (Nat.ne_of_lt HGL.out) _, (blk_set HO1.out 3 (.int .i64 n)).trans rfl, below_set HB1.out (Nat.le_of_lt HGL.out)⟩ (fun w12 h12 => ?_)
          have HZw12 := Lib.hid h12.1
          have HOw12 := Lib.hid h12.2.1
          have HBw12 := Lib.hid h12.2.2
          clear h12
          clear y3 fy3
          have y0 : w12.cell? ⟨w3.heap.size, 0, none⟩ = some (.int .i64 v) := (blk_cell HOw12.out 0).trans rfl
          have fy0 := blk_frozen HOw12.out 0
          have y1 : w12.cell? ⟨w3.heap.size, 1, none⟩ = some (.string p) := (blk_cell HOw12.out 1).trans rfl
          have fy1 := blk_frozen HOw12.out 1
          have y2 : w12.cell? ⟨w3.heap.size, 2, none⟩ = some (.string ⟨#[]⟩) := (blk_cell HOw12.out 2).trans rfl
          have fy2 := blk_frozen HOw12.out 2
          have y3 : w12.cell? ⟨w3.heap.size, 3, none⟩ = some (.int .i64 n) := (blk_cell HOw12.out 3).trans rfl
          have fy3 := blk_frozen HOw12.out 3
          have y4 : w12.cell? ⟨w3.heap.size, 4, none⟩ = some (.string ⟨#[]⟩) := (blk_cell HOw12.out 4).trans rfl
          have fy4 := blk_frozen HOw12.out 4
          have y5 : w12.cell? ⟨w3.heap.size, 5, none⟩ = some (.int .i64 0) := (blk_cell HOw12.out 5).trans rfl
          have fy5 := blk_frozen HOw12.out 5
          have y6 : w12.cell? ⟨w3.heap.size, 6, none⟩ = some (.bool false) := (blk_cell HOw12.out 6).trans rfl
          have fy6 := blk_frozen HOw12.out 6
          have y7 : w12.cell? ⟨w3.heap.size, 7, none⟩ = some (.int .i64 0) := (blk_cell HOw12.out 7).trans rfl
          have fy7 := blk_frozen HOw12.out 7
          have y8 : w12.cell? ⟨w3.heap.size, 8, none⟩ = some (.int .i64 0) := (blk_cell HOw12.out 8).trans rfl
          have fy8 := blk_frozen HOw12.out 8
          have y9 : w12.cell? ⟨w3.heap.size, 9, none⟩ = some (.int .i64 0) := (blk_cell HOw12.out 9).trans rfl
          have fy9 := blk_frozen HOw12.out 9
          have z0 : w12.cell? ⟨w.heap.size, 0, none⟩ = some (.int .i64 0) := (blk_cell HZw12.out 0).trans rfl
          have f0 := blk_frozen HZw12.out 0
          have z1 : w12.cell? ⟨w.heap.size, 1, none⟩ = some (.string ⟨#[]⟩) := (blk_cell HZw12.out 1).trans rfl
          have f1 := blk_frozen HZw12.out 1
          have z2 : w12.cell? ⟨w.heap.size, 2, none⟩ = some (.string ⟨#[]⟩) := (blk_cell HZw12.out 2).trans rfl
          have f2 := blk_frozen HZw12.out 2
          have z3 : w12.cell? ⟨w.heap.size, 3, none⟩ = some (.int .i64 0) := (blk_cell HZw12.out 3).trans rfl
          have f3 := blk_frozen HZw12.out 3
          have z4 : w12.cell? ⟨w.heap.size, 4, none⟩ = some (.string ⟨#[]⟩) := (blk_cell HZw12.out 4).trans rfl
          have f4 := blk_frozen HZw12.out 4
          have z5 : w12.cell? ⟨w.heap.size, 5, none⟩ = some (.int .i64 0) := (blk_cell HZw12.out 5).trans rfl
          have f5 := blk_frozen HZw12.out 5
          have z6 : w12.cell? ⟨w.heap.size, 6, none⟩ = some (.bool false) := (blk_cell HZw12.out 6).trans rfl
          have f6 := blk_frozen HZw12.out 6
          have z7 : w12.cell? ⟨w.heap.size, 7, none⟩ = some (.int .i64 0) := (blk_cell HZw12.out 7).trans rfl
          have f7 := blk_frozen HZw12.out 7
          have z8 : w12.cell? ⟨w.heap.size, 8, none⟩ = some (.int .i64 0) := (blk_cell HZw12.out 8).trans rfl
          have f8 := blk_frozen HZw12.out 8
          have z9 : w12.cell? ⟨w.heap.size, 9, none⟩ = some (.int .i64 0) := (blk_cell HZw12.out 9).trans rfl
          have f9 := blk_frozen HZw12.out 9
          go_wp2
          refine bodyPost_ret (Go.Proofs.YtlglbpjccpdloaaGreatDoorW.PrintWords.results_ct rfl _ _ w.heap.size 31 _ (0, 0) _ rfl (ord_put w12 w.heap.size 0 ⟨#[]⟩ ⟨#[]⟩ 0 ⟨#[]⟩ 0 false 0 0 0 v p ⟨#[]⟩ n ⟨#[]⟩ 0 false 0 0 0 _ HZw12.out) Tryz.underlying31 rfl (by kernel_rfl)) rfl ?_
          exact ⟨by rw [HF.out]; rfl, ord_below w w12 w.heap.size v p ⟨#[]⟩ n ⟨#[]⟩ 0 false 0 0 0 HBw12.out (Nat.le_refl _)⟩
        · have HF := Lib.hid (hF1.trans (if_neg he))
          have e58 : (en != 0) = true := by rw [bne_iff_ne]; exact he
          clear hF1 he h1
          go_wp2_with (first | (go_at_call 32; refine (HP.out _).mono ?_; rintro e w11 ⟨rfl, hb⟩; have HZ1 := Lib.hid (blk_below HZw10.out hb); have HO1 := Lib.hid (blk_below HOw10.out hb); have HB1 := Lib.hid (below_step HBw10.out hb); clear hb; have z0 : w11.cell? ⟨w.heap.size, 0, none⟩ = some (.int .i64 0) := (blk_cell HZ1.out 0).trans rfl; have fz0 := blk_frozen HZ1.out 0; have z1 : w11.cell? ⟨w.heap.size, 1, none⟩ = some (.string ⟨#[]⟩) := (blk_cell HZ1.out 1).trans rfl; have fz1 := blk_frozen HZ1.out 1; have z2 : w11.cell? ⟨w.heap.size, 2, none⟩ = some (.string ⟨#[]⟩) := (blk_cell HZ1.out 2).trans rfl; have fz2 := blk_frozen HZ1.out 2; have z3 : w11.cell? ⟨w.heap.size, 3, none⟩ = some (.int .i64 0) := (blk_cell HZ1.out 3).trans rfl; have fz3 := blk_frozen HZ1.out 3; have z4 : w11.cell? ⟨w.heap.size, 4, none⟩ = some (.string ⟨#[]⟩) := (blk_cell HZ1.out 4).trans rfl; have fz4 := blk_frozen HZ1.out 4; have z5 : w11.cell? ⟨w.heap.size, 5, none⟩ = some (.int .i64 0) := (blk_cell HZ1.out 5).trans rfl; have fz5 := blk_frozen HZ1.out 5; have z6 : w11.cell? ⟨w.heap.size, 6, none⟩ = some (.bool false) := (blk_cell HZ1.out 6).trans rfl; have fz6 := blk_frozen HZ1.out 6; have z7 : w11.cell? ⟨w.heap.size, 7, none⟩ = some (.int .i64 0) := (blk_cell HZ1.out 7).trans rfl; have fz7 := blk_frozen HZ1.out 7; have z8 : w11.cell? ⟨w.heap.size, 8, none⟩ = some (.int .i64 0) := (blk_cell HZ1.out 8).trans rfl; have fz8 := blk_frozen HZ1.out 8; have z9 : w11.cell? ⟨w.heap.size, 9, none⟩ = some (.int .i64 0) := (blk_cell HZ1.out 9).trans rfl; have fz9 := blk_frozen HZ1.out 9))
          refine bodyPost_ret (Go.Proofs.YtlglbpjccpdloaaGreatDoorW.PrintWords.results_ct rfl _ _ w.heap.size 31 _ (0, 0) _ rfl (ord_put w11 w.heap.size 0 ⟨#[]⟩ ⟨#[]⟩ 0 ⟨#[]⟩ 0 false 0 0 0 0 ⟨#[]⟩ ⟨#[]⟩ 0 ⟨#[]⟩ 0 false 0 0 0 _ HZ1.out) Tryz.underlying31 rfl (by kernel_rfl)) rfl ?_
          exact ⟨by rw [HF.out]; rfl, ord_below w w11 w.heap.size 0 ⟨#[]⟩ ⟨#[]⟩ 0 ⟨#[]⟩ 0 false 0 0 0 HB1.out (Nat.le_refl _)⟩
      have e1 : (v == 1) = false := by rw [beq_eq_false_iff_ne]; omega
      by_cases h6 : v = 6
      · have hr2 : 1 < r.length := by
          refine Classical.byContradiction fun h9 => HBAD.out (.inl ?_)
          rw [HMO.out, if_neg H8.out, if_neg (by omega), if_pos (.inr h6)]
          show (r.length : Int) < 2
          omega
        obtain ⟨s, hs⟩ : ∃ s, r.getD 1 ⟨#[]⟩ = s := ⟨_, rfl⟩
        obtain ⟨ad', ha, hx⟩ := Kd.at_string HRw10.out 1 (by omega) (by omega)
        cases ha
        have hx2 : w10.cell? ⟨ad.block, ad.off + 1, none⟩ = some (.string s) := by
          have h9 := hx
          rw [show ad.add (1 : Int).toNat = (⟨ad.block, ad.off + 1, none⟩ : Addr) from rfl] at h9
          rw [h9, show (1 : Int) = ((1 : Nat) : Int) from rfl, rdS_at r 1 hr2, ← hs, List.getD_eq_getElem?_getD, List.getElem?_eq_getElem hr2]
          rfl
        have q8 : (1 : Int) < (r.length : Int) := by omega
        have HF := Lib.hid (show fromW l0 = (v, p, s, 0, ⟨#[]⟩, 0, false, 0, 0, 0, 0) from HF0.out.trans (by rw [if_neg H8.out, if_neg h1, if_pos h6, HP0.out, hs]))
        have e6 : (v == 6) = true := by rw [beq_iff_eq]; omega
        have e5 : (v == 5) = false := by rw [beq_eq_false_iff_ne]; omega
        have e7 : (v == 7) = false := by rw [beq_eq_false_iff_ne]; omega
        clear hs h6 h1 hx
        have y2 : w10.cell? ⟨w3.heap.size, 2, none⟩ = some (.string ⟨#[]⟩) := (blk_cell HOw10.out 2).trans rfl
        have fy2 := blk_frozen HOw10.out 2
        go_upto_region 29 with (fail)
        (try simp only [Act.put, List.setIfInBounds_toArray, List.set_cons_zero, List.set_cons_succ])
        refine gen_world (fun W => W.heap[w.heap.size]? = some (.cells #[.int .i64 0, .string ⟨#[]⟩, .string ⟨#[]⟩, .int .i64 0, .string ⟨#[]⟩, .int .i64 0, .bool false, .int .i64 0, .int .i64 0, .int .i64 0] 31 (0, 0)) ∧ W.heap[w3.heap.size]? = some (.cells #[.int .i64 v, .string p, .string s, .int .i64 0, .string ⟨#[]⟩, .int .i64 0, .bool false, .int .i64 0, .int .i64 0, .int .i64 0] 31 (0, 0)) ∧ Below w.heap.size w W) ⟨blk_far HZw10.out (Nat.ne_of_lt HGL.out) _, (blk_set HOw10.out 2 (.string s)).trans rfl, below_set HBw10.out (Nat.le_of_lt HGL.out)⟩ (fun w12 h12 => ?_)
        have HZw12 := Lib.hid h12.1
        have HOw12 := Lib.hid h12.2.1
        have HBw12 := Lib.hid h12.2.2
        clear h12
        clear y2 fy2 hx2
        have y0 : w12.cell? ⟨w3.heap.size, 0, none⟩ = some (.int .i64 v) := (blk_cell HOw12.out 0).trans rfl
        have fy0 := blk_frozen HOw12.out 0
        have y1 : w12.cell? ⟨w3.heap.size, 1, none⟩ = some (.string p) := (blk_cell HOw12.out 1).trans rfl
        have fy1 := blk_frozen HOw12.out 1
        have y2 : w12.cell? ⟨w3.heap.size, 2, none⟩ = some (.string s) := (blk_cell HOw12.out 2).trans rfl
        have fy2 := blk_frozen HOw12.out 2
        have y3 : w12.cell? ⟨w3.heap.size, 3, none⟩ = some (.int .i64 0) := (blk_cell HOw12.out 3).trans rfl
        have fy3 := blk_frozen HOw12.out 3
        have y4 : w12.cell? ⟨w3.heap.size, 4, none⟩ = some (.string ⟨#[]⟩) := (blk_cell HOw12.out 4).trans rfl
        have fy4 := blk_frozen HOw12.out 4
        have y5 : w12.cell? ⟨w3.heap.size, 5, none⟩ = some (.int .i64 0) := (blk_cell HOw12.out 5).trans rfl
        have fy5 := blk_frozen HOw12.out 5
        have y6 : w12.cell? ⟨w3.heap.size, 6, none⟩ = some (.bool false) := (blk_cell HOw12.out 6).trans rfl
        have fy6 := blk_frozen HOw12.out 6
        have y7 : w12.cell? ⟨w3.heap.size, 7, none⟩ = some (.int .i64 0) := (blk_cell HOw12.out 7).trans rfl
        have fy7 := blk_frozen HOw12.out 7
        have y8 : w12.cell? ⟨w3.heap.size, 8, none⟩ = some (.int .i64 0) := (blk_cell HOw12.out 8).trans rfl
        have fy8 := blk_frozen HOw12.out 8
        have y9 : w12.cell? ⟨w3.heap.size, 9, none⟩ = some (.int .i64 0) := (blk_cell HOw12.out 9).trans rfl
        have fy9 := blk_frozen HOw12.out 9
        have z0 : w12.cell? ⟨w.heap.size, 0, none⟩ = some (.int .i64 0) := (blk_cell HZw12.out 0).trans rfl
        have f0 := blk_frozen HZw12.out 0
        have z1 : w12.cell? ⟨w.heap.size, 1, none⟩ = some (.string ⟨#[]⟩) := (blk_cell HZw12.out 1).trans rfl
        have f1 := blk_frozen HZw12.out 1
        have z2 : w12.cell? ⟨w.heap.size, 2, none⟩ = some (.string ⟨#[]⟩) := (blk_cell HZw12.out 2).trans rfl
        have f2 := blk_frozen HZw12.out 2
        have z3 : w12.cell? ⟨w.heap.size, 3, none⟩ = some (.int .i64 0) := (blk_cell HZw12.out 3).trans rfl
        have f3 := blk_frozen HZw12.out 3
        have z4 : w12.cell? ⟨w.heap.size, 4, none⟩ = some (.string ⟨#[]⟩) := (blk_cell HZw12.out 4).trans rfl
        have f4 := blk_frozen HZw12.out 4
        have z5 : w12.cell? ⟨w.heap.size, 5, none⟩ = some (.int .i64 0) := (blk_cell HZw12.out 5).trans rfl
        have f5 := blk_frozen HZw12.out 5
        have z6 : w12.cell? ⟨w.heap.size, 6, none⟩ = some (.bool false) := (blk_cell HZw12.out 6).trans rfl
        have f6 := blk_frozen HZw12.out 6
        have z7 : w12.cell? ⟨w.heap.size, 7, none⟩ = some (.int .i64 0) := (blk_cell HZw12.out 7).trans rfl
        have f7 := blk_frozen HZw12.out 7
        have z8 : w12.cell? ⟨w.heap.size, 8, none⟩ = some (.int .i64 0) := (blk_cell HZw12.out 8).trans rfl
        have f8 := blk_frozen HZw12.out 8
        have z9 : w12.cell? ⟨w.heap.size, 9, none⟩ = some (.int .i64 0) := (blk_cell HZw12.out 9).trans rfl
        have f9 := blk_frozen HZw12.out 9
        go_wp2
        refine bodyPost_ret (Go.Proofs.YtlglbpjccpdloaaGreatDoorW.PrintWords.results_ct rfl _ _ w.heap.size 31 _ (0, 0) _ rfl (ord_put w12 w.heap.size 0 ⟨#[]⟩ ⟨#[]⟩ 0 ⟨#[]⟩ 0 false 0 0 0 v p s 0 ⟨#[]⟩ 0 false 0 0 0 _ HZw12.out) Tryz.underlying31 rfl (by kernel_rfl)) rfl ?_
        exact ⟨by rw [HF.out]; rfl, ord_below w w12 w.heap.size v p s 0 ⟨#[]⟩ 0 false 0 0 0 HBw12.out (Nat.le_refl _)⟩
      have e6 : (v == 6) = false := by rw [beq_eq_false_iff_ne]; omega
      by_cases h5 : v = 5 ∨ v = 7
      · obtain ⟨L, hL⟩ : ∃ L, r.drop 1 = L := ⟨_, rfl⟩
        have hLl : L.length = r.length - 1 := by rw [← hL, List.length_drop]
        obtain ⟨A2, hcut2, hD2, hl2⟩ := cut_from (A := some ad) (c := c0 - (vb v).length) (n := 1) (l := r) (by omega) HDl.out
        rw [hL] at hcut2 hD2 hl2
        have hcut3 : ∀ W : World, (Instr.slice 22 (.slice (some ad) r.length (c0 - (vb v).length)) (some (.int .i64 1)) none none).run Tryz.prog W = .ok (.slice A2 L.length (c0 - (vb v).length - 1)) W := hcut2
        have HCR := Lib.hid (hD2 _ HRw10.out)
        have hLs : ∀ x ∈ L, x.size ≤ 100000 := fun x hx => HRS.out HR7.out x (by rw [← hL] at hx; exact List.mem_of_mem_drop hx)
        have htw := rtox_is L hLs (by have := HR7.out; omega) 700000 (Nat.le_refl _)
        obtain ⟨t0, ht0⟩ : ∃ n, (toxW L).1 = n := ⟨_, rfl⟩
        obtain ⟨t1, ht1⟩ : ∃ n, (toxW L).2.1 = n := ⟨_, rfl⟩
        obtain ⟨t2, ht2⟩ : ∃ n, (toxW L).2.2.1 = n := ⟨_, rfl⟩
        obtain ⟨t3, ht3⟩ : ∃ n, (toxW L).2.2.2.1 = n := ⟨_, rfl⟩
        obtain ⟨t4, ht4⟩ : ∃ n, (toxW L).2.2.2.2.1 = n := ⟨_, rfl⟩
        obtain ⟨t5, ht5⟩ : ∃ n, (toxW L).2.2.2.2.2.1 = n := ⟨_, rfl⟩
        obtain ⟨er, her⟩ : ∃ n, (toxW L).2.2.2.2.2.2 = n := ⟨_, rfl⟩
        have htw2 : chicaneref16_toxic.f 700000 L = some (t0, t1, t2, t3, t4, t5, er) := by rw [htw, ← ht0, ← ht1, ← ht2, ← ht3, ← ht4, ← ht5, ← her]
        have HT := Lib.hid (fun W (hC : Kd.C Kd.string W A2 L.length L) => chicaneref16_toxic.calls 700000 A2 (c0 - (vb v).length - 1) L t0 t1 t2 t3 t4 t5 er W hC hl2 htw2)
        have hF1 : fromW l0 = if er = 0 then (v, p, ⟨#[]⟩, 0, t0, t1, t2, t3, t4, t5, 0) else none11 er := HF0.out.trans (by rw [if_neg H8.out, if_neg h1, if_neg h6, if_pos h5, HP0.out, hL, ht0, ht1, ht2, ht3, ht4, ht5, her])
        have q9 : (1 : Int) ≤ (r.length : Int) := by omega
        clear hL hLl hcut2 hD2 hl2 hLs htw htw2 ht0 ht1 ht2 ht3 ht4 ht5 her
        have HX57 : (v == 5) = true ∨ ((v == 5) = false ∧ (v == 7) = true) := by
          rcases h5 with rfl | rfl
          · exact .inl rfl
          · exact .inr ⟨rfl, rfl⟩
        clear h5 h1 h6
        by_cases he : er = 0
        · have HF := Lib.hid (hF1.trans (if_pos he))
          have e81 : (er != 0) = false := by rw [bne_eq_false_iff_eq]; exact he
          clear hF1 he
          rcases HX57 with e5 | ⟨e5, e7⟩
          all_goals
            go_upto_if 81 with (first | (go_at_call 33; refine (HT.out _ HCR.out).mono ?_; rintro e w11 ⟨rfl, hb⟩; have HZ1 := Lib.hid (blk_below HZw10.out hb); have HO1 := Lib.hid (blk_below HOw10.out hb); have HB1 := Lib.hid (below_step HBw10.out hb); clear hb))
            (try simp only [Act.put, List.setIfInBounds_toArray, List.set_cons_zero, List.set_cons_succ])
            obtain ⟨g, hg⟩ : ∃ g, w11.heap.size = g := ⟨_, rfl⟩
            refine gen_world (fun W => W.heap[w.heap.size]? = some (.cells #[.int .i64 0, .string ⟨#[]⟩, .string ⟨#[]⟩, .int .i64 0, .string ⟨#[]⟩, .int .i64 0, .bool false, .int .i64 0, .int .i64 0, .int .i64 0] 31 (0, 0)) ∧ W.heap[w3.heap.size]? = some (.cells #[.int .i64 v, .string p, .string ⟨#[]⟩, .int .i64 0, .string ⟨#[]⟩, .int .i64 0, .bool false, .int .i64 0, .int .i64 0, .int .i64 0] 31 (0, 0)) ∧ Below w.heap.size w W ∧ W.heap[w11.heap.size]? = some (.cells #[.string t0, .int .i64 t1, .bool t2, .int .i64 t3, .int .i64 t4, .int .i64 t5] 25 (0, 0))) ⟨blk_alloc (o := .cells _ _) HZ1.out _, blk_alloc (o := .cells _ _) HO1.out _, below_alloc HB1.out _, alloc_blk w11 _ _⟩ (fun w12 h12 => ?_)
            have HZw12 := Lib.hid h12.1
            have HOw12 := Lib.hid h12.2.1
            have HBw12 := Lib.hid h12.2.2.1
            have HTw12 := Lib.hid h12.2.2.2
            clear h12 hg
            have tc0 : w12.cell? ⟨w11.heap.size, 0, none⟩ = some (.string t0) := (blk_cell HTw12.out 0).trans rfl
            have ftc0 := blk_frozen HTw12.out 0
            have tc1 : w12.cell? ⟨w11.heap.size, 1, none⟩ = some (.int .i64 t1) := (blk_cell HTw12.out 1).trans rfl
            have ftc1 := blk_frozen HTw12.out 1
            have tc2 : w12.cell? ⟨w11.heap.size, 2, none⟩ = some (.bool t2) := (blk_cell HTw12.out 2).trans rfl
            have ftc2 := blk_frozen HTw12.out 2
            have tc3 : w12.cell? ⟨w11.heap.size, 3, none⟩ = some (.int .i64 t3) := (blk_cell HTw12.out 3).trans rfl
            have ftc3 := blk_frozen HTw12.out 3
            have tc4 : w12.cell? ⟨w11.heap.size, 4, none⟩ = some (.int .i64 t4) := (blk_cell HTw12.out 4).trans rfl
            have ftc4 := blk_frozen HTw12.out 4
            have tc5 : w12.cell? ⟨w11.heap.size, 5, none⟩ = some (.int .i64 t5) := (blk_cell HTw12.out 5).trans rfl
            have ftc5 := blk_frozen HTw12.out 5
            have y4 : w12.cell? ⟨w3.heap.size, 4, none⟩ = some (.string ⟨#[]⟩) := (blk_cell HOw12.out 4).trans rfl
            have fy4 := blk_frozen HOw12.out 4
            have y5 : w12.cell? ⟨w3.heap.size, 5, none⟩ = some (.int .i64 0) := (blk_cell HOw12.out 5).trans rfl
            have fy5 := blk_frozen HOw12.out 5
            have y6 : w12.cell? ⟨w3.heap.size, 6, none⟩ = some (.bool false) := (blk_cell HOw12.out 6).trans rfl
            have fy6 := blk_frozen HOw12.out 6
            have y7 : w12.cell? ⟨w3.heap.size, 7, none⟩ = some (.int .i64 0) := (blk_cell HOw12.out 7).trans rfl
            have fy7 := blk_frozen HOw12.out 7
            have y8 : w12.cell? ⟨w3.heap.size, 8, none⟩ = some (.int .i64 0) := (blk_cell HOw12.out 8).trans rfl
            have fy8 := blk_frozen HOw12.out 8
            have y9 : w12.cell? ⟨w3.heap.size, 9, none⟩ = some (.int .i64 0) := (blk_cell HOw12.out 9).trans rfl
            have fy9 := blk_frozen HOw12.out 9
            go_upto_region 29 with (fail)
            (try simp only [Act.put, List.setIfInBounds_toArray, List.set_cons_zero, List.set_cons_succ])
            refine gen_world (fun W => W.heap[w.heap.size]? = some (.cells #[.int .i64 0, .string ⟨#[]⟩, .string ⟨#[]⟩, .int .i64 0, .string ⟨#[]⟩, .int .i64 0, .bool false, .int .i64 0, .int .i64 0, .int .i64 0] 31 (0, 0)) ∧ W.heap[w3.heap.size]? = some (.cells #[.int .i64 v, .string p, .string ⟨#[]⟩, .int .i64 0, .string t0, .int .i64 t1, .bool t2, .int .i64 t3, .int .i64 t4, .int .i64 t5] 31 (0, 0)) ∧ Below w.heap.size w W) ⟨blk_far (blk_far (blk_far (blk_far (blk_far (blk_far HZw12.out (Nat.ne_of_lt HGL.out) _) (Nat.ne_of_lt HGL.out) _) (Nat.ne_of_lt HGL.out) _) (Nat.ne_of_lt HGL.out) _) (Nat.ne_of_lt HGL.out) _) (Nat.ne_of_lt HGL.out) _, (blk_set (blk_set (blk_set (blk_set (blk_set (blk_set HOw12.out 4 (.string t0)) 5 (.int .i64 t1)) 6 (.bool t2)) 7 (.int .i64 t3)) 8 (.int .i64 t4)) 9 (.int .i64 t5)).trans rfl, below_set (below_set (below_set (below_set (below_set (below_set HBw12.out (Nat.le_of_lt HGL.out)) (Nat.le_of_lt HGL.out)) (Nat.le_of_lt HGL.out)) (Nat.le_of_lt HGL.out)) (Nat.le_of_lt HGL.out)) (Nat.le_of_lt HGL.out)⟩ (fun w13 h13 => ?_)
            have HZw13 := Lib.hid h13.1
            have HOw13 := Lib.hid h13.2.1
            have HBw13 := Lib.hid h13.2.2
            clear h13
            clear y4 fy4 y5 fy5 y6 fy6 y7 fy7 y8 fy8 y9 fy9
            have y0 : w13.cell? ⟨w3.heap.size, 0, none⟩ = some (.int .i64 v) := (blk_cell HOw13.out 0).trans rfl
            have fy0 := blk_frozen HOw13.out 0
            have y1 : w13.cell? ⟨w3.heap.size, 1, none⟩ = some (.string p) := (blk_cell HOw13.out 1).trans rfl
            have fy1 := blk_frozen HOw13.out 1
            have y2 : w13.cell? ⟨w3.heap.size, 2, none⟩ = some (.string ⟨#[]⟩) := (blk_cell HOw13.out 2).trans rfl
            have fy2 := blk_frozen HOw13.out 2
            have y3 : w13.cell? ⟨w3.heap.size, 3, none⟩ = some (.int .i64 0) := (blk_cell HOw13.out 3).trans rfl
            have fy3 := blk_frozen HOw13.out 3
            have y4 : w13.cell? ⟨w3.heap.size, 4, none⟩ = some (.string t0) := (blk_cell HOw13.out 4).trans rfl
            have fy4 := blk_frozen HOw13.out 4
            have y5 : w13.cell? ⟨w3.heap.size, 5, none⟩ = some (.int .i64 t1) := (blk_cell HOw13.out 5).trans rfl
            have fy5 := blk_frozen HOw13.out 5
            have y6 : w13.cell? ⟨w3.heap.size, 6, none⟩ = some (.bool t2) := (blk_cell HOw13.out 6).trans rfl
            have fy6 := blk_frozen HOw13.out 6
            have y7 : w13.cell? ⟨w3.heap.size, 7, none⟩ = some (.int .i64 t3) := (blk_cell HOw13.out 7).trans rfl
            have fy7 := blk_frozen HOw13.out 7
            have y8 : w13.cell? ⟨w3.heap.size, 8, none⟩ = some (.int .i64 t4) := (blk_cell HOw13.out 8).trans rfl
            have fy8 := blk_frozen HOw13.out 8
            have y9 : w13.cell? ⟨w3.heap.size, 9, none⟩ = some (.int .i64 t5) := (blk_cell HOw13.out 9).trans rfl
            have fy9 := blk_frozen HOw13.out 9
            have z0 : w13.cell? ⟨w.heap.size, 0, none⟩ = some (.int .i64 0) := (blk_cell HZw13.out 0).trans rfl
            have f0 := blk_frozen HZw13.out 0
            have z1 : w13.cell? ⟨w.heap.size, 1, none⟩ = some (.string ⟨#[]⟩) := (blk_cell HZw13.out 1).trans rfl
            have f1 := blk_frozen HZw13.out 1
            have z2 : w13.cell? ⟨w.heap.size, 2, none⟩ = some (.string ⟨#[]⟩) := (blk_cell HZw13.out 2).trans rfl
            have f2 := blk_frozen HZw13.out 2
            have z3 : w13.cell? ⟨w.heap.size, 3, none⟩ = some (.int .i64 0) := (blk_cell HZw13.out 3).trans rfl
            have f3 := blk_frozen HZw13.out 3
            have z4 : w13.cell? ⟨w.heap.size, 4, none⟩ = some (.string ⟨#[]⟩) := (blk_cell HZw13.out 4).trans rfl
            have f4 := blk_frozen HZw13.out 4
            have z5 : w13.cell? ⟨w.heap.size, 5, none⟩ = some (.int .i64 0) := (blk_cell HZw13.out 5).trans rfl
            have f5 := blk_frozen HZw13.out 5
            have z6 : w13.cell? ⟨w.heap.size, 6, none⟩ = some (.bool false) := (blk_cell HZw13.out 6).trans rfl
            have f6 := blk_frozen HZw13.out 6
            have z7 : w13.cell? ⟨w.heap.size, 7, none⟩ = some (.int .i64 0) := (blk_cell HZw13.out 7).trans rfl
            have f7 := blk_frozen HZw13.out 7
            have z8 : w13.cell? ⟨w.heap.size, 8, none⟩ = some (.int .i64 0) := (blk_cell HZw13.out 8).trans rfl
            have f8 := blk_frozen HZw13.out 8
            have z9 : w13.cell? ⟨w.heap.size, 9, none⟩ = some (.int .i64 0) := (blk_cell HZw13.out 9).trans rfl
            have f9 := blk_frozen HZw13.out 9
            go_wp2
            refine bodyPost_ret (Go.Proofs.YtlglbpjccpdloaaGreatDoorW.PrintWords.results_ct rfl _ _ w.heap.size 31 _ (0, 0) _ rfl (ord_put w13 w.heap.size 0 ⟨#[]⟩ ⟨#[]⟩ 0 ⟨#[]⟩ 0 false 0 0 0 v p ⟨#[]⟩ 0 t0 t1 t2 t3 t4 t5 _ HZw13.out) Tryz.underlying31 rfl (by kernel_rfl)) rfl ?_
            exact ⟨by rw [HF.out]; rfl, ord_below w w13 w.heap.size v p ⟨#[]⟩ 0 t0 t1 t2 t3 t4 t5 HBw13.out (Nat.le_refl _)⟩
        · have HF := Lib.hid (hF1.trans (if_neg he))
          have e81 : (er != 0) = true := by rw [bne_iff_ne]; exact he
          clear hF1 he
          rcases HX57 with e5 | ⟨e5, e7⟩
          all_goals
            go_upto_if 81 with (first | (go_at_call 33; refine (HT.out _ HCR.out).mono ?_; rintro e w11 ⟨rfl, hb⟩; have HZ1 := Lib.hid (blk_below HZw10.out hb); have HO1 := Lib.hid (blk_below HOw10.out hb); have HB1 := Lib.hid (below_step HBw10.out hb); clear hb))
            (try simp only [Act.put, List.setIfInBounds_toArray, List.set_cons_zero, List.set_cons_succ])
            obtain ⟨g, hg⟩ : ∃ g, w11.heap.size = g := ⟨_, rfl⟩
            refine gen_world (fun W => W.heap[w.heap.size]? = some (.cells #[.int .i64 0, .string ⟨#[]⟩, .string ⟨#[]⟩, .int .i64 0, .string ⟨#[]⟩, .int .i64 0, .bool false, .int .i64 0, .int .i64 0, .int .i64 0] 31 (0, 0)) ∧ W.heap[w3.heap.size]? = some (.cells #[.int .i64 v, .string p, .string ⟨#[]⟩, .int .i64 0, .string ⟨#[]⟩, .int .i64 0, .bool false, .int .i64 0, .int .i64 0, .int .i64 0] 31 (0, 0)) ∧ Below w.heap.size w W ∧ W.heap[w11.heap.size]? = some (.cells #[.string t0, .int .i64 t1, .bool t2, .int .i64 t3, .int .i64 t4, .int .i64 t5] 25 (0, 0))) ⟨blk_alloc (o := .cells _ _) HZ1.out _, blk_alloc (o := .cells _ _) HO1.out _, below_alloc HB1.out _, alloc_blk w11 _ _⟩ (fun w12 h12 => ?_)
            have HZw12 := Lib.hid h12.1
            have HOw12 := Lib.hid h12.2.1
            have HBw12 := Lib.hid h12.2.2.1
            have HTw12 := Lib.hid h12.2.2.2
            clear h12 hg
            have z0 : w12.cell? ⟨w.heap.size, 0, none⟩ = some (.int .i64 0) := (blk_cell HZw12.out 0).trans rfl
            have f0 := blk_frozen HZw12.out 0
            have z1 : w12.cell? ⟨w.heap.size, 1, none⟩ = some (.string ⟨#[]⟩) := (blk_cell HZw12.out 1).trans rfl
            have f1 := blk_frozen HZw12.out 1
            have z2 : w12.cell? ⟨w.heap.size, 2, none⟩ = some (.string ⟨#[]⟩) := (blk_cell HZw12.out 2).trans rfl
            have f2 := blk_frozen HZw12.out 2
            have z3 : w12.cell? ⟨w.heap.size, 3, none⟩ = some (.int .i64 0) := (blk_cell HZw12.out 3).trans rfl
            have f3 := blk_frozen HZw12.out 3
            have z4 : w12.cell? ⟨w.heap.size, 4, none⟩ = some (.string ⟨#[]⟩) := (blk_cell HZw12.out 4).trans rfl
            have f4 := blk_frozen HZw12.out 4
            have z5 : w12.cell? ⟨w.heap.size, 5, none⟩ = some (.int .i64 0) := (blk_cell HZw12.out 5).trans rfl
            have f5 := blk_frozen HZw12.out 5
            have z6 : w12.cell? ⟨w.heap.size, 6, none⟩ = some (.bool false) := (blk_cell HZw12.out 6).trans rfl
            have f6 := blk_frozen HZw12.out 6
            have z7 : w12.cell? ⟨w.heap.size, 7, none⟩ = some (.int .i64 0) := (blk_cell HZw12.out 7).trans rfl
            have f7 := blk_frozen HZw12.out 7
            have z8 : w12.cell? ⟨w.heap.size, 8, none⟩ = some (.int .i64 0) := (blk_cell HZw12.out 8).trans rfl
            have f8 := blk_frozen HZw12.out 8
            have z9 : w12.cell? ⟨w.heap.size, 9, none⟩ = some (.int .i64 0) := (blk_cell HZw12.out 9).trans rfl
            have f9 := blk_frozen HZw12.out 9
            go_wp2
            refine bodyPost_ret (Go.Proofs.YtlglbpjccpdloaaGreatDoorW.PrintWords.results_ct rfl _ _ w.heap.size 31 _ (0, 0) _ rfl (ord_put w12 w.heap.size 0 ⟨#[]⟩ ⟨#[]⟩ 0 ⟨#[]⟩ 0 false 0 0 0 0 ⟨#[]⟩ ⟨#[]⟩ 0 ⟨#[]⟩ 0 false 0 0 0 _ HZw12.out) Tryz.underlying31 rfl (by kernel_rfl)) rfl ?_
            exact ⟨by rw [HF.out]; rfl, ord_below w w12 w.heap.size 0 ⟨#[]⟩ ⟨#[]⟩ 0 ⟨#[]⟩ 0 false 0 0 0 HBw12.out (Nat.le_refl _)⟩
      · have HF := Lib.hid (show fromW l0 = (v, p, ⟨#[]⟩, 0, ⟨#[]⟩, 0, false, 0, 0, 0, 0) from HF0.out.trans (by rw [if_neg H8.out, if_neg h1, if_neg h6, if_neg h5, HP0.out]))
        have e5 : (v == 5) = false := by rw [beq_eq_false_iff_ne]; omega
        have e7 : (v == 7) = false := by rw [beq_eq_false_iff_ne]; omega
        clear h5 h1 h6
        have y0 : w10.cell? ⟨w3.heap.size, 0, none⟩ = some (.int .i64 v) := (blk_cell HOw10.out 0).trans rfl
        have fy0 := blk_frozen HOw10.out 0
        have y1 : w10.cell? ⟨w3.heap.size, 1, none⟩ = some (.string p) := (blk_cell HOw10.out 1).trans rfl
        have fy1 := blk_frozen HOw10.out 1
        have y2 : w10.cell? ⟨w3.heap.size, 2, none⟩ = some (.string ⟨#[]⟩) := (blk_cell HOw10.out 2).trans rfl
        have fy2 := blk_frozen HOw10.out 2
        have y3 : w10.cell? ⟨w3.heap.size, 3, none⟩ = some (.int .i64 0) := (blk_cell HOw10.out 3).trans rfl
        have fy3 := blk_frozen HOw10.out 3
        have y4 : w10.cell? ⟨w3.heap.size, 4, none⟩ = some (.string ⟨#[]⟩) := (blk_cell HOw10.out 4).trans rfl
        have fy4 := blk_frozen HOw10.out 4
        have y5 : w10.cell? ⟨w3.heap.size, 5, none⟩ = some (.int .i64 0) := (blk_cell HOw10.out 5).trans rfl
        have fy5 := blk_frozen HOw10.out 5
        have y6 : w10.cell? ⟨w3.heap.size, 6, none⟩ = some (.bool false) := (blk_cell HOw10.out 6).trans rfl
        have fy6 := blk_frozen HOw10.out 6
        have y7 : w10.cell? ⟨w3.heap.size, 7, none⟩ = some (.int .i64 0) := (blk_cell HOw10.out 7).trans rfl
        have fy7 := blk_frozen HOw10.out 7
        have y8 : w10.cell? ⟨w3.heap.size, 8, none⟩ = some (.int .i64 0) := (blk_cell HOw10.out 8).trans rfl
        have fy8 := blk_frozen HOw10.out 8
        have y9 : w10.cell? ⟨w3.heap.size, 9, none⟩ = some (.int .i64 0) := (blk_cell HOw10.out 9).trans rfl
        have fy9 := blk_frozen HOw10.out 9
        have z0 : w10.cell? ⟨w.heap.size, 0, none⟩ = some (.int .i64 0) := (blk_cell HZw10.out 0).trans rfl
        have f0 := blk_frozen HZw10.out 0
        have z1 : w10.cell? ⟨w.heap.size, 1, none⟩ = some (.string ⟨#[]⟩) := (blk_cell HZw10.out 1).trans rfl
        have f1 := blk_frozen HZw10.out 1
        have z2 : w10.cell? ⟨w.heap.size, 2, none⟩ = some (.string ⟨#[]⟩) := (blk_cell HZw10.out 2).trans rfl
        have f2 := blk_frozen HZw10.out 2
        have z3 : w10.cell? ⟨w.heap.size, 3, none⟩ = some (.int .i64 0) := (blk_cell HZw10.out 3).trans rfl
        have f3 := blk_frozen HZw10.out 3
        have z4 : w10.cell? ⟨w.heap.size, 4, none⟩ = some (.string ⟨#[]⟩) := (blk_cell HZw10.out 4).trans rfl
        have f4 := blk_frozen HZw10.out 4
        have z5 : w10.cell? ⟨w.heap.size, 5, none⟩ = some (.int .i64 0) := (blk_cell HZw10.out 5).trans rfl
        have f5 := blk_frozen HZw10.out 5
        have z6 : w10.cell? ⟨w.heap.size, 6, none⟩ = some (.bool false) := (blk_cell HZw10.out 6).trans rfl
        have f6 := blk_frozen HZw10.out 6
        have z7 : w10.cell? ⟨w.heap.size, 7, none⟩ = some (.int .i64 0) := (blk_cell HZw10.out 7).trans rfl
        have f7 := blk_frozen HZw10.out 7
        have z8 : w10.cell? ⟨w.heap.size, 8, none⟩ = some (.int .i64 0) := (blk_cell HZw10.out 8).trans rfl
        have f8 := blk_frozen HZw10.out 8
        have z9 : w10.cell? ⟨w.heap.size, 9, none⟩ = some (.int .i64 0) := (blk_cell HZw10.out 9).trans rfl
        have f9 := blk_frozen HZw10.out 9
        go_wp2
        refine bodyPost_ret (Go.Proofs.YtlglbpjccpdloaaGreatDoorW.PrintWords.results_ct rfl _ _ w.heap.size 31 _ (0, 0) _ rfl (ord_put w10 w.heap.size 0 ⟨#[]⟩ ⟨#[]⟩ 0 ⟨#[]⟩ 0 false 0 0 0 v p ⟨#[]⟩ 0 ⟨#[]⟩ 0 false 0 0 0 _ HZw10.out) Tryz.underlying31 rfl (by kernel_rfl)) rfl ?_
        exact ⟨by rw [HF.out]; rfl, ord_below w w10 w.heap.size v p ⟨#[]⟩ 0 ⟨#[]⟩ 0 false 0 0 0 HBw10.out (Nat.le_refl _)⟩
end Go.Proofs.YtlglbpjccpdloaaGreatDoor.Ext
set_option linter.unusedVariables false
set_option linter.unusedSimpArgs false
namespace Go.Proofs.YtlglbpjccpdloaaGreatDoor.Ext
open Go.RowKit Go.Shelf Go.Proofs.YtlglbpjccpdloaaGreatDoorW.PrintWords Go.Proofs.YtlglbpjccpdloaaGreatDoorW.PrintLast Go.Proofs.YtlglbpjccpdloaaGreatDoor.PWrdA Go.Proofs.YtlglbpjccpdloaaGreatDoor.ToxZ Go.Proofs.YtlglbpjccpdloaaGreatDoor.Tox Go.Proofs.YtlglbpjccpdloaaGreatDoor.POrdB
set_option maxRecDepth 100000 in
theorem rfw_nil (A0 : Option Addr) (c0 : Nat) (w : World) :
    Calls Tryz.prog 10 #[.slice A0 0 c0] w fun e w' => e = .returned (ordT (fromW [])) ∧ Below w.heap.size w w' := by
  have HB0 := Lib.hid (below_alloc (Below.refl w.heap.size w) (.cells #[.int .i64 0, .string ⟨#[]⟩, .string ⟨#[]⟩, .int .i64 0, .string ⟨#[]⟩, .int .i64 0, .bool false, .int .i64 0, .int .i64 0, .int .i64 0] 31))
  have HBK0 := Lib.hid (alloc_blk w #[.int .i64 0, .string ⟨#[]⟩, .string ⟨#[]⟩, .int .i64 0, .string ⟨#[]⟩, .int .i64 0, .bool false, .int .i64 0, .int .i64 0, .int .i64 0] 31)
  go_enter Tryz.func10, Tryz.ntmps10
  go_wp2
  refine bodyPost_ret (Go.Proofs.YtlglbpjccpdloaaGreatDoorW.PrintWords.results_ct rfl _ _ w.heap.size 31 _ (0, 0) _ rfl HBK0.out Tryz.underlying31 rfl (by kernel_rfl)) rfl ?_
  exact ⟨rfl, HB0.out⟩
def chicaneref16_FromWords.f (l0 : List ByteArray) : Option T11 := if okW l0 = true then some (fromW l0) else none
theorem chicaneref16_FromWords.calls (A0 : Option Addr) (c0 : Nat) (l0 : List ByteArray) (r1 : Int) (r2 : ByteArray) (r3 : ByteArray) (r4 : Int) (r5 : ByteArray) (r6 : Int) (r7 : Bool) (r8 : Int) (r9 : Int) (r10 : Int) (r11 : Int) (w : World) (hr0 : Kd.C Kd.string w A0 l0.length l0) (hc0 : l0.length ≤ c0) (h : chicaneref16_FromWords.f l0 = some (r1, r2, r3, r4, r5, r6, r7, r8, r9, r10, r11)) :
    Calls Tryz.prog 10 #[.slice A0 l0.length c0] w fun e w' => e = .returned (.tuple #[.agg #[.int .i64 r1, .string r2, .string r3, .int .i64 r4, .string r5, .int .i64 r6, .bool r7, .int .i64 r8, .int .i64 r9, .int .i64 r10], .int .i64 r11]) ∧ Below w.heap.size w w' := by
  unfold chicaneref16_FromWords.f at h
  split at h
  · rename_i ho
    unfold okW at ho
    rw [Bool.and_eq_true, decide_eq_true_eq, Bool.or_eq_true, decide_eq_true_eq, List.all_eq_true] at ho
    by_cases hl : l0 = []
    · subst hl
      have := rfw_nil A0 c0 w
      rw [Option.some.inj h] at this
      exact this
    · have := rfw_main A0 c0 l0 hl w hr0 hc0 ho.1 (fun h9 x hx => of_decide_eq_true (ho.2.resolve_left (by omega) x hx))
      rw [Option.some.inj h] at this
      exact this
  · cases h
end Go.Proofs.YtlglbpjccpdloaaGreatDoor.Ext
namespace Go.Proofs.YtlglbpjccpdloaaGreatDoor.POrdB
open Go.Proofs.YtlglbpjccpdloaaGreatDoor.Ext Go.Proofs.YtlglbpjccpdloaaGreatDoor.ToxZ Go.Proofs.YtlglbpjccpdloaaGreatDoor.PWrdA Go.RowKit Go.Proofs.YtlglbpjccpdloaaGreatDoorW.PrintWords Go.Proofs.YtlglbpjccpdloaaGreatDoorW.PrintLast Go.Proofs.YtlglbpjccpdloaaGreatDoorW.PrintMore
attribute [local go_sem] max2_int min2_int max_two min_two max_three min_three max_four min_four   -- for this text's walks alone
set_option linter.unusedVariables false
set_option linter.unusedSimpArgs false
theorem eqA25 (d : Nat) (w : World) (x0 y0 : ByteArray) (x1 y1 : Int) (x2 y2 : Bool) (x3 y3 : Int) (x4 y4 : Int) (x5 y5 : Int) :
  (Op.equalIn (d + 2) 25 (.agg #[.string x0, .int .i64 x1, .bool x2, .int .i64 x3, .int .i64 x4, .int .i64 x5]) (.agg #[.string y0, .int .i64 y1, .bool y2, .int .i64 y3, .int .i64 y4, .int .i64 y5])).run Tryz.prog w = .ok (x0.toList == y0.toList && (x1 == y1 && (x2 == y2 && (x3 == y3 && (x4 == y4 && (x5 == y5)))))) w := by
 refine eqA_of Tryz.underlying25 (by kernel_rfl) ?_
 refine eqf_cons (by rfl) (by go_simp; rfl) (by go_simp; rfl) (by go_simp) ?_
 refine eqf_cons (by rfl) (by go_simp; rfl) (by go_simp; rfl) (by go_simp) ?_
 refine eqf_cons (by rfl) (by go_simp; rfl) (by go_simp; rfl) (by go_simp) ?_
 refine eqf_cons (by rfl) (by go_simp; rfl) (by go_simp; rfl) (by go_simp) ?_
 refine eqf_cons (by rfl) (by go_simp; rfl) (by go_simp; rfl) (by go_simp) ?_
 exact eqf_last (by rfl) (by go_simp; rfl) (by go_simp; rfl) (by go_simp)
end Go.Proofs.YtlglbpjccpdloaaGreatDoor.POrdB
namespace Go.Proofs.YtlglbpjccpdloaaGreatDoor.POrdB
open Go.Proofs.YtlglbpjccpdloaaGreatDoor.Ext Go.Proofs.YtlglbpjccpdloaaGreatDoor.ToxZ Go.Proofs.YtlglbpjccpdloaaGreatDoor.PWrdA Go.RowKit Go.Proofs.YtlglbpjccpdloaaGreatDoorW.PrintWords Go.Proofs.YtlglbpjccpdloaaGreatDoorW.PrintLast Go.Proofs.YtlglbpjccpdloaaGreatDoorW.PrintMore
attribute [local go_sem] max2_int min2_int max_two min_two max_three min_three max_four min_four   -- for this text's walks alone
set_option linter.unusedVariables false
set_option linter.unusedSimpArgs false
theorem eqA27 (d : Nat) (w : World) (x0 y0 : Int) (x1 y1 : ByteArray) (x2 y2 : ByteArray) (x3 y3 : Int) (x4 y4 : ByteArray) (x5 y5 : Int) (x6 y6 : Bool) (x7 y7 : Int) (x8 y8 : Int) (x9 y9 : Int) :
  (Op.equalIn (d + 3) 27 (.agg #[.int .i64 x0, .string x1, .string x2, .int .i64 x3, .string x4, .int .i64 x5, .bool x6, .int .i64 x7, .int .i64 x8, .int .i64 x9]) (.agg #[.int .i64 y0, .string y1, .string y2, .int .i64 y3, .string y4, .int .i64 y5, .bool y6, .int .i64 y7, .int .i64 y8, .int .i64 y9])).run Tryz.prog w = .ok (x0 == y0 && (x1.toList == y1.toList && (x2.toList == y2.toList && (x3 == y3 && ((x4.toList == y4.toList && (x5 == y5 && (x6 == y6 && (x7 == y7 && (x8 == y8 && (x9 == y9))))))))))) w := by
 refine eqA_of Tryz.underlying27 (by kernel_rfl) ?_
 refine eqf_cons (by rfl) (by go_simp; rfl) (by go_simp; rfl) (by go_simp) ?_
 refine eqf_cons (by rfl) (by go_simp; rfl) (by go_simp; rfl) (by go_simp) ?_
 refine eqf_cons (by rfl) (by go_simp; rfl) (by go_simp; rfl) (by go_simp) ?_
 refine eqf_cons (by rfl) (by go_simp; rfl) (by go_simp; rfl) (by go_simp) ?_
 exact eqf_last (by rfl) (by go_simp) (by go_simp) (eqA25 (d + 0) w _ _ _ _ _ _ _ _ _ _ _ _)
end Go.Proofs.YtlglbpjccpdloaaGreatDoor.POrdB
