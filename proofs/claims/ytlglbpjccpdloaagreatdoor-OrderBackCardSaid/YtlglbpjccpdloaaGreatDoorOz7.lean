/- Gathered by a program of this session (shake.py): what the claim's theorem needs. -/
import Derived.Test.YtlglbpjccpdloaaGreatDoorOz5
import Derived.Test.YtlglbpjccpdloaaGreatDoorOz6
set_option linter.unusedVariables false
set_option linter.unusedSimpArgs false
namespace Go.Proofs.YtlglbpjccpdloaaGreatDoor.Ext
end Go.Proofs.YtlglbpjccpdloaaGreatDoor.Ext
namespace Go.Proofs.YtlglbpjccpdloaaGreatDoor.POrdB
end Go.Proofs.YtlglbpjccpdloaaGreatDoor.POrdB
namespace Go.Proofs.YtlglbpjccpdloaaGreatDoor.PWrdA
end Go.Proofs.YtlglbpjccpdloaaGreatDoor.PWrdA
namespace Go.Proofs.YtlglbpjccpdloaaGreatDoor.Tox
end Go.Proofs.YtlglbpjccpdloaaGreatDoor.Tox
namespace Go.Proofs.YtlglbpjccpdloaaGreatDoor.ToxPlain
end Go.Proofs.YtlglbpjccpdloaaGreatDoor.ToxPlain
namespace Go.Proofs.YtlglbpjccpdloaaGreatDoor.ToxRef
end Go.Proofs.YtlglbpjccpdloaaGreatDoor.ToxRef
namespace Go.Proofs.YtlglbpjccpdloaaGreatDoor.ToxZ
end Go.Proofs.YtlglbpjccpdloaaGreatDoor.ToxZ
namespace Go.Proofs.YtlglbpjccpdloaaGreatDoorW.PrintLast
end Go.Proofs.YtlglbpjccpdloaaGreatDoorW.PrintLast
namespace Go.Proofs.YtlglbpjccpdloaaGreatDoorW.PrintMore
end Go.Proofs.YtlglbpjccpdloaaGreatDoorW.PrintMore
namespace Go.Proofs.YtlglbpjccpdloaaGreatDoorW.PrintWords
end Go.Proofs.YtlglbpjccpdloaaGreatDoorW.PrintWords
namespace Go.Proofs.YtlglbpjccpdloaaGreatDoor.POrdB
open Go.Proofs.YtlglbpjccpdloaaGreatDoor.Ext Go.Proofs.YtlglbpjccpdloaaGreatDoor.ToxZ Go.Proofs.YtlglbpjccpdloaaGreatDoor.PWrdA Go.RowKit Go.Proofs.YtlglbpjccpdloaaGreatDoorW.PrintWords Go.Proofs.YtlglbpjccpdloaaGreatDoorW.PrintLast Go.Proofs.YtlglbpjccpdloaaGreatDoorW.PrintMore
attribute [local go_sem] max2_int min2_int max_two min_two max_three min_three max_four min_four   -- for this text's walks alone
set_option linter.unusedVariables false
set_option linter.unusedSimpArgs false
open Go in
private theorem yield_one {P : Program} {ops : Array Oper} {Q : Exit → Act → World → Prop} {md : Region.Mode} {S : World → Prop} {ds : List Nat} {i : Nat} {N : Option Tmp} {oi : Oper} {v : Value} {fuel : Nat} {l : Array Bool} {a : Act} {W : World} (l' : Array Bool)
  (hi : ops[i]? = some oi) (hN : oi.dst = N) (hc : readyB md ops l l' i = true) (hd : i ∉ ds) (hy : YieldsIf P ops (fun w' => w' = W) oi v a) (hS : S W) {a' : Act} (ha : a.put N v = a')
  (h : wpAnyLast P md ops Q S ds fuel l' a' W) : wpAnyLast P md ops Q S ds (fuel + 1) l a W := by
 subst ha
 subst hN
 simp only [readyB, Bool.and_eq_true, beq_iff_eq] at hc
 obtain ⟨h1, h2⟩ := hc
 subst h2
 refine wpAnyLast_all h1 (by simp) (fun j hj => ?_)
 rw [List.mem_singleton.1 hj]
 exact hy.wpOp hi rfl ⟨fun _ _ => hS, h⟩
mutual
def order_Words.j0 : Nat → Bool → Int → ByteArray → ByteArray → Int → ByteArray → Int → Bool → Int → Int → Int → Option (List ByteArray)
 | 0, _, _, _, _, _, _, _, _, _, _, _ => none
 | k + 1, x22, x104000, x104001, x104002, x104003, x104004, x104005, x104006, x104007, x104008, x104009 => if x22 = true then (some ([] : List ByteArray)) else ((order_Verbs.f).bind fun t106 => (if 0 ≤ (wrap64 (x104000 - 1)) then (if (wrap64 (x104000 - 1)) < (t106.length : Int) then ((strings_Fields.f (rdOf ByteArray.empty t106 (wrap64 (x104000 - 1)))).bind fun t110 => ((order_noProxy.f x104000).bind fun t113 => (if t113 = true then (order_Words.j1 k t110 x104000 x104001 x104002 x104003 x104004 x104005 x104006 x104007 x104008 x104009) else (if t110.length < 8796093022208 then (order_Words.j1 k (t110 ++ [x104001]) x104000 x104001 x104002 x104003 x104004 x104005 x104006 x104007 x104008 x104009) else (none))))) else (none)) else (none)))
def order_Words.j1 : Nat → List ByteArray → Int → ByteArray → ByteArray → Int → ByteArray → Int → Bool → Int → Int → Int → Option (List ByteArray)
 | 0, _, _, _, _, _, _, _, _, _, _, _ => none
 | k + 1, x3, x104000, x104001, x104002, x104003, x104004, x104005, x104006, x104007, x104008, x104009 => if x104000 = 1 then ((tick_Text.f x104003).bind fun t117 => (if x3.length < 8796093022208 then (some (x3 ++ [t117])) else (none))) else (if x104000 = 6 then (if x3.length < 8796093022208 then (some (x3 ++ [x104002])) else (none)) else ((order_toxical.f x104000).bind fun t124 => (if t124 = true then ((toxic_Text.f x104004 x104005 x104006 x104007 x104008 x104009).bind fun t125 => ((strings_Fields.f t125).bind fun t126 => (if x3.length + t126.length < 8796093022208 then (some (x3 ++ t126)) else (none)))) else (some x3))))
end
def order_Words.f (k : Nat) (a0_0 : Int) (a0_1 : ByteArray) (a0_2 : ByteArray) (a0_3 : Int) (a0_4 : ByteArray) (a0_5 : Int) (a0_6 : Bool) (a0_7 : Int) (a0_8 : Int) (a0_9 : Int) : Option (List ByteArray) := if a0_0 < 1 then (order_Words.j0 k true a0_0 a0_1 a0_2 a0_3 a0_4 a0_5 a0_6 a0_7 a0_8 a0_9) else (if a0_0 > 10 then (order_Words.j0 k true a0_0 a0_1 a0_2 a0_3 a0_4 a0_5 a0_6 a0_7 a0_8 a0_9) else ((order_toxical.f a0_0).bind fun t104 => (if t104 = true then ((toxic_Right.f a0_4 a0_5 a0_6 a0_7 a0_8 a0_9).bind fun t105 => (order_Words.j0 k (!t105) a0_0 a0_1 a0_2 a0_3 a0_4 a0_5 a0_6 a0_7 a0_8 a0_9)) else (order_Words.j0 k false a0_0 a0_1 a0_2 a0_3 a0_4 a0_5 a0_6 a0_7 a0_8 a0_9))))
theorem order_Words.mono_l : ∀ k, (∀ y0 y1 y2 y3 y4 y5 y6 y7 y8 y9 y10, LeO (order_Words.j0 k y0 y1 y2 y3 y4 y5 y6 y7 y8 y9 y10) (order_Words.j0 (k + 1) y0 y1 y2 y3 y4 y5 y6 y7 y8 y9 y10)) ∧ (∀ y0 y1 y2 y3 y4 y5 y6 y7 y8 y9 y10, LeO (order_Words.j1 k y0 y1 y2 y3 y4 y5 y6 y7 y8 y9 y10) (order_Words.j1 (k + 1) y0 y1 y2 y3 y4 y5 y6 y7 y8 y9 y10))
 | 0 => ⟨fun _ _ _ _ _ _ _ _ _ _ _ r h => by simp [order_Words.j0] at h, fun _ _ _ _ _ _ _ _ _ _ _ r h => by simp [order_Words.j1] at h⟩
 | k + 1 => by
  obtain ⟨ih0, ih1⟩ := order_Words.mono_l k
  refine ⟨?_, ?_⟩
  ·intro y0 y1 y2 y3 y4 y5 y6 y7 y8 y9 y10
   unfold order_Words.j0
   repeat' first
   | (with_reducible exact ih0 _ _ _ _ _ _ _ _ _ _ _)
   | (with_reducible exact ih1 _ _ _ _ _ _ _ _ _ _ _)
   | (with_reducible exact LeO.refl _)
   | (with_reducible exact LeO.none _)
   | (with_reducible refine LeO.ite ?_ ?_)
   | (with_reducible refine LeO.bind ?_ (fun _ => ?_))
   | exact ih0 _ _ _ _ _ _ _ _ _ _ _
   | exact ih1 _ _ _ _ _ _ _ _ _ _ _
   | exact LeO.none _
   | refine LeO.ite ?_ ?_
   | refine LeO.bind ?_ (fun _ => ?_)
  ·intro y0 y1 y2 y3 y4 y5 y6 y7 y8 y9 y10
   unfold order_Words.j1
   repeat' first
   | (with_reducible exact ih0 _ _ _ _ _ _ _ _ _ _ _)
   | (with_reducible exact ih1 _ _ _ _ _ _ _ _ _ _ _)
   | (with_reducible exact LeO.refl _)
   | (with_reducible exact LeO.none _)
   | (with_reducible refine LeO.ite ?_ ?_)
   | (with_reducible refine LeO.bind ?_ (fun _ => ?_))
   | exact ih0 _ _ _ _ _ _ _ _ _ _ _
   | exact ih1 _ _ _ _ _ _ _ _ _ _ _
   | exact LeO.none _
   | refine LeO.ite ?_ ?_
   | refine LeO.bind ?_ (fun _ => ?_)
theorem order_Words.mono : ∀ a0 a1 a2 a3 a4 a5 a6 a7 a8 a9 k, LeO (order_Words.f k a0 a1 a2 a3 a4 a5 a6 a7 a8 a9) (order_Words.f (k + 1) a0 a1 a2 a3 a4 a5 a6 a7 a8 a9) := by
 intro a0 a1 a2 a3 a4 a5 a6 a7 a8 a9 k
 obtain ⟨ih0, ih1⟩ := order_Words.mono_l k
 unfold order_Words.f
 repeat' first
   | (with_reducible exact ih0 _ _ _ _ _ _ _ _ _ _ _)
   | (with_reducible exact ih1 _ _ _ _ _ _ _ _ _ _ _)
   | (with_reducible exact LeO.refl _)
   | (with_reducible exact LeO.none _)
   | (with_reducible refine LeO.ite ?_ ?_)
   | (with_reducible refine LeO.bind ?_ (fun _ => ?_))
   | exact ih0 _ _ _ _ _ _ _ _ _ _ _
   | exact ih1 _ _ _ _ _ _ _ _ _ _ _
   | exact LeO.none _
   | refine LeO.ite ?_ ?_
   | refine LeO.bind ?_ (fun _ => ?_)
def order_Words.T3 : Bool × List (List Nat × List Nat) := (true, [([], []), ([], []), ([1], [1]), ([2], [2]), ([0, 3], [0, 3]), ([4], [4]), ([5, 0], [5]), ([6, 6, 0, 1, 2, 3, 4, 5, 6], [6])])
def order_Words.B3 : List Nat := [0, 0, 2, 6, 15, 31, 63, 127]
theorem order_Words.tab3 : rtab .any (opsOf Tryz.f12 3) = order_Words.T3 := by kernel_rfl
theorem order_Words.bits3 : waitsOk order_Words.T3.2 order_Words.B3 = true := by kernel_rfl
set_option maxHeartbeats 8000000 in
set_option maxRecDepth 100000 in
theorem order_Words.calls (k : Nat) (a0_0 : Int) (a0_1 : ByteArray) (a0_2 : ByteArray) (a0_3 : Int) (a0_4 : ByteArray) (a0_5 : Int) (a0_6 : Bool) (a0_7 : Int) (a0_8 : Int) (a0_9 : Int) (r : List ByteArray) (w : World) (hT : Aside0 (Ext.Tab w)) (h : order_Words.f k a0_0 a0_1 a0_2 a0_3 a0_4 a0_5 a0_6 a0_7 a0_8 a0_9 = some r) :
  Calls Tryz.prog 12 #[.agg #[.int .i64 a0_0, .string a0_1, .string a0_2, .int .i64 a0_3, .string a0_4, .int .i64 a0_5, .bool a0_6, .int .i64 a0_7, .int .i64 a0_8, .int .i64 a0_9]] w fun e w' => ∃ v0_ : Value, e = .returned (v0_) ∧ Kd.R Kd.string 9 w' w.heap.size (fun _ => True) v0_ r ∧ Below w.heap.size w w' := by
 have hu27 := Tryz.underlying27
 have hu25 := Tryz.underlying25
 have HB := Aside0.mk (Below.refl w.heap.size w)
 have H : (if a0_0 < 1 then (order_Words.j0 k true a0_0 a0_1 a0_2 a0_3 a0_4 a0_5 a0_6 a0_7 a0_8 a0_9) else (if a0_0 > 10 then (order_Words.j0 k true a0_0 a0_1 a0_2 a0_3 a0_4 a0_5 a0_6 a0_7 a0_8 a0_9) else ((order_toxical.f a0_0).bind fun t104 => (if t104 = true then ((toxic_Right.f a0_4 a0_5 a0_6 a0_7 a0_8 a0_9).bind fun t105 => (order_Words.j0 k (!t105) a0_0 a0_1 a0_2 a0_3 a0_4 a0_5 a0_6 a0_7 a0_8 a0_9)) else (order_Words.j0 k false a0_0 a0_1 a0_2 a0_3 a0_4 a0_5 a0_6 a0_7 a0_8 a0_9))))) = some r := h
 clear h
 have HC2 := Aside0.mk H
 clear H
 go_enter Tryz.func12, Tryz.ntmps12
 go_upto_region 1 with (first | ((with_reducible refine gate_dst (N := 1) rfl ?_); refine box_event ?hg (N := 1) ?hd (cs := #[.int .i64 a0_0, .string a0_1, .string a0_2, .int .i64 a0_3, .string a0_4, .int .i64 a0_5, .bool a0_6, .int .i64 a0_7, .int .i64 a0_8, .int .i64 a0_9]) (t := 27) ?hr ?_; (case hd => rfl); (case hg => rfl); (case hr => first | (go_simp; done) | (go_simp; rfl)); intro gb103 hg w3 hbox hb; have n0_ := Aside0.mk (below_step (by repeat (first | (with_reducible first | exact HB.out | apply below_alloc | apply pw_below_drewN | apply below_drew1) | exact HB.out)) hb); have n1_ := Aside0.mk (hbox); have n2_ := Aside0.mk ((by rw [hg]; exact (below_size (by repeat (first | (with_reducible first | exact HB.out | apply below_alloc | apply pw_below_drewN | apply below_drew1) | exact HB.out))) : w.heap.size ≤ gb103)); have n3_ := Aside0.mk ((by rw [hg]; exact (below_size (by repeat (first | (with_reducible first | exact HB.out | apply below_alloc | apply pw_below_drewN | apply below_drew1) | exact HB.out))) : w.heap.size ≤ gb103)); clear HB; have HB := n0_; have BK103 := n1_; have GW103 := n2_; have GE103 := n3_; clear n0_ n1_ n2_ n3_; clear hb hbox hg))
 (try simp only [Act.put, List.setIfInBounds_toArray, List.set_cons_zero, List.set_cons_succ])
 go_cut [22] (fun v22 wc => ∃ (kq : Nat) (x22_1 : Bool), v22 = .bool x22_1 ∧ Aside0 (order_Words.j0 kq x22_1 a0_0 a0_1 a0_2 a0_3 a0_4 a0_5 a0_6 a0_7 a0_8 a0_9 = some r) ∧ Aside0 (kq ≤ k) ∧ Aside0 (wc.heap[gb103]? = some (.cells #[.int .i64 a0_0, .string a0_1, .string a0_2, .int .i64 a0_3, .string a0_4, .int .i64 a0_5, .bool a0_6, .int .i64 a0_7, .int .i64 a0_8, .int .i64 a0_9] 27 (0, 0))) ∧ Aside0 (Below w.heap.size w wc))
 case first =>
  have H := HC2.out
  clear HC2
  by_cases c4 : a0_0 < 1
  ·rw [if_pos c4] at H
   have c4b0 : decide (a0_0 < 1) = true := decide_eq_true c4
   clear c4
   (first | rw [c4b0] | (simp only [i64_w, i32_w]; rw [c4b0]) | skip)
   have H' := Aside0.mk H
   clear H
   have hcz5_0 : w3.cell? ⟨gb103, 0, none⟩ = some (.int .i64 a0_0) := (blk_cell BK103.out 0).trans rfl
   have hcz5_1 : w3.cell? ⟨gb103, 1, none⟩ = some (.string a0_1) := (blk_cell BK103.out 1).trans rfl
   have hcz5_2 : w3.cell? ⟨gb103, 2, none⟩ = some (.string a0_2) := (blk_cell BK103.out 2).trans rfl
   have hcz5_3 : w3.cell? ⟨gb103, 3, none⟩ = some (.int .i64 a0_3) := (blk_cell BK103.out 3).trans rfl
   have hcz5_4 : w3.cell? ⟨gb103, 4, none⟩ = some (.string a0_4) := (blk_cell BK103.out 4).trans rfl
   have hcz5_5 : w3.cell? ⟨gb103, 5, none⟩ = some (.int .i64 a0_5) := (blk_cell BK103.out 5).trans rfl
   have hcz5_6 : w3.cell? ⟨gb103, 6, none⟩ = some (.bool a0_6) := (blk_cell BK103.out 6).trans rfl
   have hcz5_7 : w3.cell? ⟨gb103, 7, none⟩ = some (.int .i64 a0_7) := (blk_cell BK103.out 7).trans rfl
   have hcz5_8 : w3.cell? ⟨gb103, 8, none⟩ = some (.int .i64 a0_8) := (blk_cell BK103.out 8).trans rfl
   have hcz5_9 : w3.cell? ⟨gb103, 9, none⟩ = some (.int .i64 a0_9) := (blk_cell BK103.out 9).trans rfl
   have hfz5_0 := blk_frozen BK103.out 0
   have hfz5_1 := blk_frozen BK103.out 1
   have hfz5_2 := blk_frozen BK103.out 2
   have hfz5_3 := blk_frozen BK103.out 3
   have hfz5_4 := blk_frozen BK103.out 4
   have hfz5_5 := blk_frozen BK103.out 5
   have hfz5_6 := blk_frozen BK103.out 6
   have hfz5_7 := blk_frozen BK103.out 7
   have hfz5_8 := blk_frozen BK103.out 8
   have hfz5_9 := blk_frozen BK103.out 9
   go_wp2
   go_meet
   case rel => exact ⟨_, (true), (by first | rfl | (simp; done) | (simp [*]; done)), H', ⟨by first | omega | exact Nat.le_refl _⟩, ⟨by (with_reducible repeat (first | refine blk_drewN ?_ _ | refine blk_drew ?_ | refine blk_alloc ?_ _)); exact BK103.out⟩, ⟨by repeat (first | (with_reducible first | exact HB.out | apply below_alloc | apply pw_below_drewN | apply below_drew1 | refine below_set ?_ GE103.out) | exact HB.out)⟩⟩
  ·rw [if_neg c4] at H
   have c4b0 : decide (a0_0 < 1) = false := decide_eq_false c4
   clear c4
   (first | rw [c4b0] | (simp only [i64_w, i32_w]; rw [c4b0]) | skip)
   by_cases c6 : a0_0 > 10
   ·rw [if_pos c6] at H
    have c6b0 : decide (10 < a0_0) = true := decide_eq_true c6
    clear c6
    have H' := Aside0.mk H
    clear H
    have hcz7_0 : w3.cell? ⟨gb103, 0, none⟩ = some (.int .i64 a0_0) := (blk_cell BK103.out 0).trans rfl
    have hcz7_1 : w3.cell? ⟨gb103, 1, none⟩ = some (.string a0_1) := (blk_cell BK103.out 1).trans rfl
    have hcz7_2 : w3.cell? ⟨gb103, 2, none⟩ = some (.string a0_2) := (blk_cell BK103.out 2).trans rfl
    have hcz7_3 : w3.cell? ⟨gb103, 3, none⟩ = some (.int .i64 a0_3) := (blk_cell BK103.out 3).trans rfl
    have hcz7_4 : w3.cell? ⟨gb103, 4, none⟩ = some (.string a0_4) := (blk_cell BK103.out 4).trans rfl
    have hcz7_5 : w3.cell? ⟨gb103, 5, none⟩ = some (.int .i64 a0_5) := (blk_cell BK103.out 5).trans rfl
    have hcz7_6 : w3.cell? ⟨gb103, 6, none⟩ = some (.bool a0_6) := (blk_cell BK103.out 6).trans rfl
    have hcz7_7 : w3.cell? ⟨gb103, 7, none⟩ = some (.int .i64 a0_7) := (blk_cell BK103.out 7).trans rfl
    have hcz7_8 : w3.cell? ⟨gb103, 8, none⟩ = some (.int .i64 a0_8) := (blk_cell BK103.out 8).trans rfl
    have hcz7_9 : w3.cell? ⟨gb103, 9, none⟩ = some (.int .i64 a0_9) := (blk_cell BK103.out 9).trans rfl
    have hfz7_0 := blk_frozen BK103.out 0
    have hfz7_1 := blk_frozen BK103.out 1
    have hfz7_2 := blk_frozen BK103.out 2
    have hfz7_3 := blk_frozen BK103.out 3
    have hfz7_4 := blk_frozen BK103.out 4
    have hfz7_5 := blk_frozen BK103.out 5
    have hfz7_6 := blk_frozen BK103.out 6
    have hfz7_7 := blk_frozen BK103.out 7
    have hfz7_8 := blk_frozen BK103.out 8
    have hfz7_9 := blk_frozen BK103.out 9
    go_wp2
    go_meet
    case rel => exact ⟨_, (true), (by first | rfl | (simp; done) | (simp [*]; done)), H', ⟨by first | omega | exact Nat.le_refl _⟩, ⟨by (with_reducible repeat (first | refine blk_drewN ?_ _ | refine blk_drew ?_ | refine blk_alloc ?_ _)); exact BK103.out⟩, ⟨by repeat (first | (with_reducible first | exact HB.out | apply below_alloc | apply pw_below_drewN | apply below_drew1 | refine below_set ?_ GE103.out) | exact HB.out)⟩⟩
   ·rw [if_neg c6] at H
    have c6b0 : decide (10 < a0_0) = false := decide_eq_false c6
    clear c6
    replace H := Option.bind_eq_some_iff.mp H
    obtain ⟨t104, A80, H⟩ := H
    replace H : (if t104 = true then ((toxic_Right.f a0_4 a0_5 a0_6 a0_7 a0_8 a0_9).bind fun t105 => (order_Words.j0 k (!t105) a0_0 a0_1 a0_2 a0_3 a0_4 a0_5 a0_6 a0_7 a0_8 a0_9)) else (order_Words.j0 k false a0_0 a0_1 a0_2 a0_3 a0_4 a0_5 a0_6 a0_7 a0_8 a0_9)) = some r := H
    have A8 := Aside0.mk A80
    clear A80
    by_cases c9 : t104 = true
    ·subst c9
     have H1 : ((toxic_Right.f a0_4 a0_5 a0_6 a0_7 a0_8 a0_9).bind fun t105 => (order_Words.j0 k (!t105) a0_0 a0_1 a0_2 a0_3 a0_4 a0_5 a0_6 a0_7 a0_8 a0_9)) = some r := by rw [if_pos rfl] at H; exact H
     clear H
     have H := H1
     clear H1
     replace H := Option.bind_eq_some_iff.mp H
     obtain ⟨t105, A100, H⟩ := H
     replace H : (order_Words.j0 k (!t105) a0_0 a0_1 a0_2 a0_3 a0_4 a0_5 a0_6 a0_7 a0_8 a0_9) = some r := H
     have A10 := Aside0.mk A100
     clear A100
     have H' := Aside0.mk H
     clear H
     have hcz11_0 : w3.cell? ⟨gb103, 0, none⟩ = some (.int .i64 a0_0) := (blk_cell BK103.out 0).trans rfl
     have hcz11_1 : w3.cell? ⟨gb103, 1, none⟩ = some (.string a0_1) := (blk_cell BK103.out 1).trans rfl
     have hcz11_2 : w3.cell? ⟨gb103, 2, none⟩ = some (.string a0_2) := (blk_cell BK103.out 2).trans rfl
     have hcz11_3 : w3.cell? ⟨gb103, 3, none⟩ = some (.int .i64 a0_3) := (blk_cell BK103.out 3).trans rfl
     have hcz11_4 : w3.cell? ⟨gb103, 4, none⟩ = some (.string a0_4) := (blk_cell BK103.out 4).trans rfl
     have hcz11_5 : w3.cell? ⟨gb103, 5, none⟩ = some (.int .i64 a0_5) := (blk_cell BK103.out 5).trans rfl
     have hcz11_6 : w3.cell? ⟨gb103, 6, none⟩ = some (.bool a0_6) := (blk_cell BK103.out 6).trans rfl
     have hcz11_7 : w3.cell? ⟨gb103, 7, none⟩ = some (.int .i64 a0_7) := (blk_cell BK103.out 7).trans rfl
     have hcz11_8 : w3.cell? ⟨gb103, 8, none⟩ = some (.int .i64 a0_8) := (blk_cell BK103.out 8).trans rfl
     have hcz11_9 : w3.cell? ⟨gb103, 9, none⟩ = some (.int .i64 a0_9) := (blk_cell BK103.out 9).trans rfl
     have hfz11_0 := blk_frozen BK103.out 0
     have hfz11_1 := blk_frozen BK103.out 1
     have hfz11_2 := blk_frozen BK103.out 2
     have hfz11_3 := blk_frozen BK103.out 3
     have hfz11_4 := blk_frozen BK103.out 4
     have hfz11_5 := blk_frozen BK103.out 5
     have hfz11_6 := blk_frozen BK103.out 6
     have hfz11_7 := blk_frozen BK103.out 7
     have hfz11_8 := blk_frozen BK103.out 8
     have hfz11_9 := blk_frozen BK103.out 9
     go_wp2_with (first | (go_at_call 28; (with_reducible refine (order_toxical.calls a0_0 true _ A8.out).mono ?_); rintro e w' ⟨rfl, ⟨nd, rfl⟩⟩) | (go_at_call 34; (with_reducible refine (toxic_Right.calls a0_4 a0_5 a0_6 a0_7 a0_8 a0_9 t105 _ A10.out).mono ?_); rintro e w12 ⟨rfl, hb⟩; have n0_ := Aside0.mk (blk_below (g := gb103) (o := .cells #[.int .i64 a0_0, .string a0_1, .string a0_2, .int .i64 a0_3, .string a0_4, .int .i64 a0_5, .bool a0_6, .int .i64 a0_7, .int .i64 a0_8, .int .i64 a0_9] 27 (0, 0)) (by (with_reducible repeat (first | refine blk_drewN ?_ _ | refine blk_drew ?_ | refine blk_alloc ?_ _)); exact BK103.out) hb); have n1_ := Aside0.mk (below_step (by repeat (first | (with_reducible first | exact HB.out | apply below_alloc | apply pw_below_drewN | apply below_drew1 | refine below_set ?_ GE103.out) | exact HB.out)) hb); clear BK103; clear HB; have BK103 := n0_; have HB := n1_; clear n0_ n1_; (try clear hb); (try clear hb2); (try clear hk); (try clear hi)))
     go_meet
     case rel => exact ⟨_, (!t105), (by first | rfl | (simp; done) | (simp [*]; done)), H', ⟨by first | omega | exact Nat.le_refl _⟩, ⟨by (with_reducible repeat (first | refine blk_drewN ?_ _ | refine blk_drew ?_ | refine blk_alloc ?_ _)); exact BK103.out⟩, ⟨by repeat (first | (with_reducible first | exact HB.out | apply below_alloc | apply pw_below_drewN | apply below_drew1 | refine below_set ?_ GE103.out) | exact HB.out)⟩⟩
    ·replace c9 := Bool.eq_false_iff.mpr c9
     subst c9
     have H1 : (order_Words.j0 k false a0_0 a0_1 a0_2 a0_3 a0_4 a0_5 a0_6 a0_7 a0_8 a0_9) = some r := by rw [if_neg (show ¬ (false = true) by decide)] at H; exact H
     clear H
     have H := H1
     clear H1
     have H' := Aside0.mk H
     clear H
     have hcz13_0 : w3.cell? ⟨gb103, 0, none⟩ = some (.int .i64 a0_0) := (blk_cell BK103.out 0).trans rfl
     have hcz13_1 : w3.cell? ⟨gb103, 1, none⟩ = some (.string a0_1) := (blk_cell BK103.out 1).trans rfl
     have hcz13_2 : w3.cell? ⟨gb103, 2, none⟩ = some (.string a0_2) := (blk_cell BK103.out 2).trans rfl
     have hcz13_3 : w3.cell? ⟨gb103, 3, none⟩ = some (.int .i64 a0_3) := (blk_cell BK103.out 3).trans rfl
     have hcz13_4 : w3.cell? ⟨gb103, 4, none⟩ = some (.string a0_4) := (blk_cell BK103.out 4).trans rfl
     have hcz13_5 : w3.cell? ⟨gb103, 5, none⟩ = some (.int .i64 a0_5) := (blk_cell BK103.out 5).trans rfl
     have hcz13_6 : w3.cell? ⟨gb103, 6, none⟩ = some (.bool a0_6) := (blk_cell BK103.out 6).trans rfl
     have hcz13_7 : w3.cell? ⟨gb103, 7, none⟩ = some (.int .i64 a0_7) := (blk_cell BK103.out 7).trans rfl
     have hcz13_8 : w3.cell? ⟨gb103, 8, none⟩ = some (.int .i64 a0_8) := (blk_cell BK103.out 8).trans rfl
     have hcz13_9 : w3.cell? ⟨gb103, 9, none⟩ = some (.int .i64 a0_9) := (blk_cell BK103.out 9).trans rfl
     have hfz13_0 := blk_frozen BK103.out 0
     have hfz13_1 := blk_frozen BK103.out 1
     have hfz13_2 := blk_frozen BK103.out 2
     have hfz13_3 := blk_frozen BK103.out 3
     have hfz13_4 := blk_frozen BK103.out 4
     have hfz13_5 := blk_frozen BK103.out 5
     have hfz13_6 := blk_frozen BK103.out 6
     have hfz13_7 := blk_frozen BK103.out 7
     have hfz13_8 := blk_frozen BK103.out 8
     have hfz13_9 := blk_frozen BK103.out 9
     go_wp2_with (first | (go_at_call 28; (with_reducible refine (order_toxical.calls a0_0 false _ A8.out).mono ?_); rintro e w' ⟨rfl, ⟨nd, rfl⟩⟩))
     go_meet
     case rel => exact ⟨_, (false), (by first | rfl | (simp; done) | (simp [*]; done)), H', ⟨by first | omega | exact Nat.le_refl _⟩, ⟨by (with_reducible repeat (first | refine blk_drewN ?_ _ | refine blk_drew ?_ | refine blk_alloc ?_ _)); exact BK103.out⟩, ⟨by repeat (first | (with_reducible first | exact HB.out | apply below_alloc | apply pw_below_drewN | apply below_drew1 | refine below_set ?_ GE103.out) | exact HB.out)⟩⟩
 case rest =>
  clear HC2
  try clear c1
  try clear p2
  try clear c4
  try clear c4b0
  try clear c6
  try clear c6b0
  try clear c9
  try clear c12
  try clear hcz11_0
  try clear hcz11_1
  try clear hcz11_2
  try clear hcz11_3
  try clear hcz11_4
  try clear hcz11_5
  try clear hcz11_6
  try clear hcz11_7
  try clear hcz11_8
  try clear hcz11_9
  try clear hcz13_0
  try clear hcz13_1
  try clear hcz13_2
  try clear hcz13_3
  try clear hcz13_4
  try clear hcz13_5
  try clear hcz13_6
  try clear hcz13_7
  try clear hcz13_8
  try clear hcz13_9
  try clear hcz5_0
  try clear hcz5_1
  try clear hcz5_2
  try clear hcz5_3
  try clear hcz5_4
  try clear hcz5_5
  try clear hcz5_6
  try clear hcz5_7
  try clear hcz5_8
  try clear hcz5_9
  try clear hcz7_0
  try clear hcz7_1
  try clear hcz7_2
  try clear hcz7_3
  try clear hcz7_4
  try clear hcz7_5
  try clear hcz7_6
  try clear hcz7_7
  try clear hcz7_8
  try clear hcz7_9
  try clear hfz11_0
  try clear hfz11_1
  try clear hfz11_2
  try clear hfz11_3
  try clear hfz11_4
  try clear hfz11_5
  try clear hfz11_6
  try clear hfz11_7
  try clear hfz11_8
  try clear hfz11_9
  try clear hfz13_0
  try clear hfz13_1
  try clear hfz13_2
  try clear hfz13_3
  try clear hfz13_4
  try clear hfz13_5
  try clear hfz13_6
  try clear hfz13_7
  try clear hfz13_8
  try clear hfz13_9
  try clear hfz5_0
  try clear hfz5_1
  try clear hfz5_2
  try clear hfz5_3
  try clear hfz5_4
  try clear hfz5_5
  try clear hfz5_6
  try clear hfz5_7
  try clear hfz5_8
  try clear hfz5_9
  try clear hfz7_0
  try clear hfz7_1
  try clear hfz7_2
  try clear hfz7_3
  try clear hfz7_4
  try clear hfz7_5
  try clear hfz7_6
  try clear hfz7_7
  try clear hfz7_8
  try clear hfz7_9
  obtain ⟨kq, x22_1, rfl, HA, HJ1, BK103, HB⟩ := hcut
  cases kq with
  | zero => exact absurd HA.out (by simp [order_Words.j0])
  | succ kj1 =>
   have H := HA.out
   clear HA
   simp only [order_Words.j0] at H
   by_cases c14 : x22_1 = true
   ·subst c14
    have H1 : (some ([] : List ByteArray)) = some r := by rw [if_pos rfl] at H; exact H
    clear H
    have H := H1
    clear H1
    obtain rfl := Option.some.inj H
    go_wp2
    go_ret
    exact ⟨_, by first | rfl | (simp [errW_none, errW_some] <;> rfl) | (simp [*, errW_none, errW_some] <;> rfl), by first | exact Kd.R_nil _ _ _ _ _ | exact Kd.N_nil _ _ _ _ _ | exact Kd.V_nil _ _ _ _ _ | exact Kd.Q_nil _ _ _ _ _ | exact Kd.S_nil _ _ _ _ _, by repeat (first | (with_reducible first | exact HB.out | apply below_alloc | apply pw_below_drewN | apply below_drew1 | refine below_set ?_ GE103.out) | exact HB.out)⟩
   ·replace c14 := Bool.eq_false_iff.mpr c14
    subst c14
    have H1 : ((order_Verbs.f).bind fun t106 => (if 0 ≤ (wrap64 (a0_0 - 1)) then (if (wrap64 (a0_0 - 1)) < (t106.length : Int) then ((strings_Fields.f (rdOf ByteArray.empty t106 (wrap64 (a0_0 - 1)))).bind fun t110 => ((order_noProxy.f a0_0).bind fun t113 => (if t113 = true then (order_Words.j1 kj1 t110 a0_0 a0_1 a0_2 a0_3 a0_4 a0_5 a0_6 a0_7 a0_8 a0_9) else (if t110.length < 8796093022208 then (order_Words.j1 kj1 (t110 ++ [a0_1]) a0_0 a0_1 a0_2 a0_3 a0_4 a0_5 a0_6 a0_7 a0_8 a0_9) else (none))))) else (none)) else (none))) = some r := by rw [if_neg (show ¬ (false = true) by decide)] at H; exact H
    clear H
    have H := H1
    clear H1
    replace H := Option.bind_eq_some_iff.mp H
    obtain ⟨t106, A150, H⟩ := H
    replace H : (if 0 ≤ (wrap64 (a0_0 - 1)) then (if (wrap64 (a0_0 - 1)) < (t106.length : Int) then ((strings_Fields.f (rdOf ByteArray.empty t106 (wrap64 (a0_0 - 1)))).bind fun t110 => ((order_noProxy.f a0_0).bind fun t113 => (if t113 = true then (order_Words.j1 kj1 t110 a0_0 a0_1 a0_2 a0_3 a0_4 a0_5 a0_6 a0_7 a0_8 a0_9) else (if t110.length < 8796093022208 then (order_Words.j1 kj1 (t110 ++ [a0_1]) a0_0 a0_1 a0_2 a0_3 a0_4 a0_5 a0_6 a0_7 a0_8 a0_9) else (none))))) else (none)) else (none)) = some r := H
    have A15 := Aside0.mk A150
    clear A150
    obtain ⟨ji16, hji16⟩ : ∃ j_ : Int, (wrap64 (a0_0 - 1)) = j_ := ⟨_, rfl⟩
    replace H : (if 0 ≤ (ji16) then (if (ji16) < (t106.length : Int) then ((strings_Fields.f (rdOf ByteArray.empty t106 (ji16))).bind fun t110 => ((order_noProxy.f a0_0).bind fun t113 => (if t113 = true then (order_Words.j1 kj1 t110 a0_0 a0_1 a0_2 a0_3 a0_4 a0_5 a0_6 a0_7 a0_8 a0_9) else (if t110.length < 8796093022208 then (order_Words.j1 kj1 (t110 ++ [a0_1]) a0_0 a0_1 a0_2 a0_3 a0_4 a0_5 a0_6 a0_7 a0_8 a0_9) else (none))))) else (none)) else (none)) = some r := by first | (rw [hji16] at H; exact H) | (simp only [hji16] at H ⊢; exact H)
    (try rw [hji16] at A15)
    have hji16w : (IntKind.i64.wrap (a0_0 - 1)) = ji16 := (i64_w _).trans hji16
    by_cases c17 : 0 ≤ (ji16)
    ·rw [if_pos c17] at H
     have c17b0 : decide (0 ≤ (ji16)) = true := decide_eq_true c17
     clear c17
     by_cases c18 : (ji16) < (t106.length : Int)
     ·rw [if_pos c18] at H
      have c18b0 : decide ((ji16) < (t106.length : Int)) = true := decide_eq_true c18
      clear c18
      replace H := Option.bind_eq_some_iff.mp H
      obtain ⟨t110, A190, H⟩ := H
      replace H : ((order_noProxy.f a0_0).bind fun t113 => (if t113 = true then (order_Words.j1 kj1 t110 a0_0 a0_1 a0_2 a0_3 a0_4 a0_5 a0_6 a0_7 a0_8 a0_9) else (if t110.length < 8796093022208 then (order_Words.j1 kj1 (t110 ++ [a0_1]) a0_0 a0_1 a0_2 a0_3 a0_4 a0_5 a0_6 a0_7 a0_8 a0_9) else (none)))) = some r := H
      have A19 := Aside0.mk A190
      clear A190
      replace H := Option.bind_eq_some_iff.mp H
      obtain ⟨t113, A200, H⟩ := H
      replace H : (if t113 = true then (order_Words.j1 kj1 t110 a0_0 a0_1 a0_2 a0_3 a0_4 a0_5 a0_6 a0_7 a0_8 a0_9) else (if t110.length < 8796093022208 then (order_Words.j1 kj1 (t110 ++ [a0_1]) a0_0 a0_1 a0_2 a0_3 a0_4 a0_5 a0_6 a0_7 a0_8 a0_9) else (none))) = some r := H
      have A20 := Aside0.mk A200
      clear A200
      have HC21 := Aside0.mk H
      clear H
      try go_wp2
      have n0_ := Aside0.mk (blk_drew BK103.out)
      have n1_ := Aside0.mk (below_drew1 HB.out)
      clear BK103
      clear HB
      have BK103 := n0_
      have HB := n1_
      clear n0_ n1_
      refine start_ (n := 8) (S := fun w' => w'.cell? ⟨gb103, 0, none⟩ = some (.int .i64 a0_0) ∧ w'.cell? ⟨gb103, 1, none⟩ = some (.string a0_1) ∧ w'.cell? ⟨gb103, 2, none⟩ = some (.string a0_2) ∧ w'.cell? ⟨gb103, 3, none⟩ = some (.int .i64 a0_3) ∧ w'.cell? ⟨gb103, 4, none⟩ = some (.string a0_4) ∧ w'.cell? ⟨gb103, 5, none⟩ = some (.int .i64 a0_5) ∧ w'.cell? ⟨gb103, 6, none⟩ = some (.bool a0_6) ∧ w'.cell? ⟨gb103, 7, none⟩ = some (.int .i64 a0_7) ∧ w'.cell? ⟨gb103, 8, none⟩ = some (.int .i64 a0_8) ∧ w'.cell? ⟨gb103, 9, none⟩ = some (.int .i64 a0_9)) (ds := []) #[false, false, false, false, false, false, false, false] (by kernel_rfl) rfl rfl ⟨(blk_cell BK103.out 0).trans rfl, (blk_cell BK103.out 1).trans rfl, (blk_cell BK103.out 2).trans rfl, (blk_cell BK103.out 3).trans rfl, (blk_cell BK103.out 4).trans rfl, (blk_cell BK103.out 5).trans rfl, (blk_cell BK103.out 6).trans rfl, (blk_cell BK103.out 7).trans rfl, (blk_cell BK103.out 8).trans rfl, (blk_cell BK103.out 9).trans rfl⟩ (fun hHeld => ?_); refine with_tabW order_Words.tab3 order_Words.bits3 (fun HT_ HW_ => ?_)
      generalize wc.drew = w22 at BK103 HB hHeld ⊢
      refine pure_ (i := 1) (N := some 24) (v := ?_) (a' := ?_) #[false, true, false, false, false, false, false, false] rfl rfl (any_of HT_.out (by kernel_rfl)) (fun _ _ _ h => h) (Or.inl ⟨by rfl, ?_⟩) ?_ ?_
      rotate_left
      ·intro w'
       go_simp
       with_reducible rfl
      rotate_left
      ·simp only [Act.put, List.setIfInBounds_toArray, List.set_cons_zero, List.set_cons_succ, i64_w, i32_w]
       rfl
      refine take_ (i := 2) (N := some 25) (v := ?_) (a' := ?_) #[false, true, true, false, false, false, false, false] rfl rfl (take_ofW HT_.out HW_.out (by kernel_rfl)) (fun _ _ _ h => h) (Or.inl ⟨by rfl, ?_⟩) hHeld ?_ ?_
      rotate_left
      ·rintro w' ⟨s0, s1, s2, s3, s4, s5, s6, s7, s8, s9⟩
       go_simp
       with_reducible rfl
      rotate_left
      ·simp only [Act.put, List.setIfInBounds_toArray, List.set_cons_zero, List.set_cons_succ, i64_w, i32_w]
       rfl
      refine pure_ (i := 3) (N := some 26) (v := ?_) (a' := ?_) #[false, true, true, true, false, false, false, false] rfl rfl (any_of HT_.out (by kernel_rfl)) (fun _ _ _ h => h) (Or.inl ⟨by rfl, ?_⟩) ?_ ?_
      rotate_left
      ·intro w'
       go_simp
       with_reducible rfl
      rotate_left
      ·simp only [Act.put, List.setIfInBounds_toArray, List.set_cons_zero, List.set_cons_succ, i64_w, i32_w]
       rfl
      refine one_ (i := 0) (N := some 23) #[true, true, true, true, false, false, false, false] rfl rfl (one_of HT_.out (by kernel_rfl)) (by decide) (fun K hK => ?_)
      refine goes_ Tryz.func18 (by kernel_rfl) rfl #[] (by rfl) rfl rfl (by (try simp only [List.map_toArray, List.map_cons, List.map_nil]); first | done | rfl | (simp only [List.length_drop, List.length_take]; rfl)) ?_
      with_reducible refine (order_Verbs.calls  t106 _ A15.out).mono ?_
      rintro e w23 ⟨v107, rfl, ho0, hb⟩
      skip
      refine ⟨_, rfl, ?_⟩
      have n0_ := Aside0.mk (Kd.R_lower ho0 (below_size (by repeat (first | (with_reducible first | exact HB.out | apply below_alloc | apply pw_below_drewN | apply below_drew1 | refine below_set ?_ GE103.out) | exact HB.out))))
      have n1_ := Aside0.mk (blk_below (g := gb103) (o := .cells #[.int .i64 a0_0, .string a0_1, .string a0_2, .int .i64 a0_3, .string a0_4, .int .i64 a0_5, .bool a0_6, .int .i64 a0_7, .int .i64 a0_8, .int .i64 a0_9] 27 (0, 0)) (by (with_reducible repeat (first | refine blk_drewN ?_ _ | refine blk_drew ?_ | refine blk_alloc ?_ _)); exact BK103.out) hb)
      have n2_ := Aside0.mk (below_step (by repeat (first | (with_reducible first | exact HB.out | apply below_alloc | apply pw_below_drewN | apply below_drew1 | refine below_set ?_ GE103.out) | exact HB.out)) hb)
      clear BK103
      clear HB
      have HO108 := n0_
      have BK103 := n1_
      have HB := n2_
      clear n0_ n1_ n2_
      (try clear hb)
      (try clear hb2)
      (try clear hk)
      (try clear hi)
      (try clear ho0)
      obtain ⟨Ao24, co24, eo24⟩ := Kd.R_slice HO108.out
      (first | subst eo24 | (injection eo24 with f1_ f2_ f3_; have f4_ := f1_.symm; have f5_ := f3_.symm; clear f1_ f2_ f3_; subst f4_; subst f5_))
      have p109 : 0 ≤ ((ji16) : Int) := of_decide_eq_true (by first | (with_reducible assumption) | assumption)
      have q109 : (ji16) < (t106.length : Int) := of_decide_eq_true (by first | (with_reducible assumption) | assumption)
      obtain ⟨ad109, e109, hx109_0⟩ := Kd.at_string (Kd.R_reads' HO108.out).2.2 (ji16) p109 q109
      cases e109
      replace p109 := eq_true p109
      replace q109 := eq_true q109
      refine hK.out _ _ ⟨(blk_cell BK103.out 0).trans rfl, (blk_cell BK103.out 1).trans rfl, (blk_cell BK103.out 2).trans rfl, (blk_cell BK103.out 3).trans rfl, (blk_cell BK103.out 4).trans rfl, (blk_cell BK103.out 5).trans rfl, (blk_cell BK103.out 6).trans rfl, (blk_cell BK103.out 7).trans rfl, (blk_cell BK103.out 8).trans rfl, (blk_cell BK103.out 9).trans rfl⟩ (fun hHeld => ?_)
      clear hK K
      refine norm_ (a' := ?_) ?_ ?_
      rotate_left
      ·show Act.put _ (some 23) _ = _
       simp only [Act.put, List.setIfInBounds_toArray, List.set_cons_zero, List.set_cons_succ, i64_w, i32_w]
       rfl
      refine pure_ (i := 4) (N := some 27) (v := ?_) (a' := ?_) #[true, true, true, true, true, false, false, false] rfl rfl (any_of HT_.out (by kernel_rfl)) (fun _ _ _ h => h) (Or.inl ⟨by rfl, ?_⟩) ?_ ?_
      rotate_left
      ·intro w'
       go_simp
       with_reducible rfl
      rotate_left
      ·simp only [Act.put, List.setIfInBounds_toArray, List.set_cons_zero, List.set_cons_succ, i64_w, i32_w]
       rfl
      refine yield_one (i := 5) (N := some 28) (v := ?_) (a' := ?_) #[true, true, true, true, true, true, false, false] rfl rfl (one_of HT_.out (by kernel_rfl)) (by decide) (Or.inl ⟨by rfl, ?_⟩) hHeld ?_ ?_
      rotate_left
      ·rintro w' rfl
       go_simp
       with_reducible rfl
      rotate_left
      ·simp only [Act.put, List.setIfInBounds_toArray, List.set_cons_zero, List.set_cons_succ, i64_w, i32_w]
       rfl
      refine one_ (i := 6) (N := some 29) #[true, true, true, true, true, true, true, false] rfl rfl (one_of HT_.out (by kernel_rfl)) (by decide) (fun K hK => ?_)
      refine goes_ Tryz.func35 (by kernel_rfl) rfl #[.string (rdOf ByteArray.empty t106 (ji16))] (by rfl) rfl rfl (by (try simp only [List.map_toArray, List.map_cons, List.map_nil]); first | done | (simp only [hji16]; rfl) | rfl | (simp only [List.length_drop, List.length_take]; rfl)) ?_
      with_reducible refine (strings_Fields.calls (rdOf ByteArray.empty t106 (ji16)) t110 _ (⟨Ext.tab_below hT.out (by repeat (first | (with_reducible first | exact HB.out | apply below_alloc | apply pw_below_drewN | apply below_drew1 | refine below_set ?_ GE103.out) | exact HB.out))⟩) A19.out).mono ?_
      rintro e w25 ⟨v111, rfl, ho0, hb⟩
      skip
      refine ⟨_, rfl, ?_⟩
      have n0_ := Aside0.mk (Kd.R_elder' (by (with_reducible repeat (first | apply Kd.R_alloc | apply Kd.R_drewN | apply Kd.R_drew)); exact HO108.out) (Kd.R_base ho0) hb)
      have n1_ := Aside0.mk (Kd.R_lower (Kd.R_new' ho0 (Kd.R_lt (by (with_reducible repeat (first | apply Kd.R_alloc | apply Kd.R_drewN | apply Kd.R_drew)); exact HO108.out))) (below_size (by repeat (first | (with_reducible first | exact HB.out | apply below_alloc | apply pw_below_drewN | apply below_drew1 | refine below_set ?_ GE103.out) | exact HB.out))))
      have n2_ := Aside0.mk (blk_below (g := gb103) (o := .cells #[.int .i64 a0_0, .string a0_1, .string a0_2, .int .i64 a0_3, .string a0_4, .int .i64 a0_5, .bool a0_6, .int .i64 a0_7, .int .i64 a0_8, .int .i64 a0_9] 27 (0, 0)) (by (with_reducible repeat (first | refine blk_drewN ?_ _ | refine blk_drew ?_ | refine blk_alloc ?_ _)); exact BK103.out) hb)
      have n3_ := Aside0.mk (below_step (by repeat (first | (with_reducible first | exact HB.out | apply below_alloc | apply pw_below_drewN | apply below_drew1 | refine below_set ?_ GE103.out) | exact HB.out)) hb)
      clear HO108
      clear BK103
      clear HB
      have HO108 := n0_
      have HO112 := n1_
      have BK103 := n2_
      have HB := n3_
      clear n0_ n1_ n2_ n3_
      (try clear hb)
      (try clear hb2)
      (try clear hk)
      (try clear hi)
      (try clear ho0)
      refine hK.out _ _ ⟨(blk_cell BK103.out 0).trans rfl, (blk_cell BK103.out 1).trans rfl, (blk_cell BK103.out 2).trans rfl, (blk_cell BK103.out 3).trans rfl, (blk_cell BK103.out 4).trans rfl, (blk_cell BK103.out 5).trans rfl, (blk_cell BK103.out 6).trans rfl, (blk_cell BK103.out 7).trans rfl, (blk_cell BK103.out 8).trans rfl, (blk_cell BK103.out 9).trans rfl⟩ (fun hHeld => ?_)
      clear hK K
      refine norm_ (a' := ?_) ?_ ?_
      rotate_left
      ·show Act.put _ (some 29) _ = _
       simp only [Act.put, List.setIfInBounds_toArray, List.set_cons_zero, List.set_cons_succ, i64_w, i32_w]
       rfl
      refine pure_ (i := 7) (N := some 3) (v := ?_) (a' := ?_) #[true, true, true, true, true, true, true, true] rfl rfl (any_of HT_.out (by kernel_rfl)) (fun _ _ _ h => h) (Or.inl ⟨by rfl, ?_⟩) ?_ ?_
      rotate_left
      ·intro w'
       go_simp
       with_reducible rfl
      rotate_left
      ·simp only [Act.put, List.setIfInBounds_toArray, List.set_cons_zero, List.set_cons_succ, i64_w, i32_w]
       rfl
      refine done_ (done_of HT_.out (by kernel_rfl)) ?_
      have hcz26_0 : w25.cell? ⟨gb103, 0, none⟩ = some (.int .i64 a0_0) := (blk_cell BK103.out 0).trans rfl
      have hcz26_1 : w25.cell? ⟨gb103, 1, none⟩ = some (.string a0_1) := (blk_cell BK103.out 1).trans rfl
      have hcz26_2 : w25.cell? ⟨gb103, 2, none⟩ = some (.string a0_2) := (blk_cell BK103.out 2).trans rfl
      have hcz26_3 : w25.cell? ⟨gb103, 3, none⟩ = some (.int .i64 a0_3) := (blk_cell BK103.out 3).trans rfl
      have hcz26_4 : w25.cell? ⟨gb103, 4, none⟩ = some (.string a0_4) := (blk_cell BK103.out 4).trans rfl
      have hcz26_5 : w25.cell? ⟨gb103, 5, none⟩ = some (.int .i64 a0_5) := (blk_cell BK103.out 5).trans rfl
      have hcz26_6 : w25.cell? ⟨gb103, 6, none⟩ = some (.bool a0_6) := (blk_cell BK103.out 6).trans rfl
      have hcz26_7 : w25.cell? ⟨gb103, 7, none⟩ = some (.int .i64 a0_7) := (blk_cell BK103.out 7).trans rfl
      have hcz26_8 : w25.cell? ⟨gb103, 8, none⟩ = some (.int .i64 a0_8) := (blk_cell BK103.out 8).trans rfl
      have hcz26_9 : w25.cell? ⟨gb103, 9, none⟩ = some (.int .i64 a0_9) := (blk_cell BK103.out 9).trans rfl
      have hfz26_0 := blk_frozen BK103.out 0
      have hfz26_1 := blk_frozen BK103.out 1
      have hfz26_2 := blk_frozen BK103.out 2
      have hfz26_3 := blk_frozen BK103.out 3
      have hfz26_4 := blk_frozen BK103.out 4
      have hfz26_5 := blk_frozen BK103.out 5
      have hfz26_6 := blk_frozen BK103.out 6
      have hfz26_7 := blk_frozen BK103.out 7
      have hfz26_8 := blk_frozen BK103.out 8
      have hfz26_9 := blk_frozen BK103.out 9
      go_upto_if 33 with (first | ((with_reducible refine gate_callee (f := 24) rfl ?_); refine goesL_ (some 32) rfl rfl Tryz.func24 (by kernel_rfl) rfl #[.int .i64 a0_0] rfl (by (try simp only [List.map_toArray, List.map_cons, List.map_nil]); first | done | rfl | (simp only [List.length_drop, List.length_take]; rfl)) ?_; (with_reducible refine (order_noProxy.calls a0_0 t113 _ A20.out).mono ?_); rintro e w' ⟨rfl, ⟨nd, rfl⟩⟩; refine ⟨_, rfl, ?_⟩))
      (try simp only [Act.put, List.setIfInBounds_toArray, List.set_cons_zero, List.set_cons_succ])
      go_cut [3] (fun v3 wc => ∃ (kq : Nat) (x3_20 : List ByteArray), Aside0 (order_Words.j1 kq x3_20 a0_0 a0_1 a0_2 a0_3 a0_4 a0_5 a0_6 a0_7 a0_8 a0_9 = some r) ∧ Aside0 (kq ≤ kj1) ∧ Aside0 (Kd.R Kd.string 9 wc w.heap.size (fun _ => True) v3 x3_20) ∧ Aside0 (wc.heap[gb103]? = some (.cells #[.int .i64 a0_0, .string a0_1, .string a0_2, .int .i64 a0_3, .string a0_4, .int .i64 a0_5, .bool a0_6, .int .i64 a0_7, .int .i64 a0_8, .int .i64 a0_9] 27 (0, 0))) ∧ Aside0 (Below w.heap.size w wc))
      case first =>
       have H := HC21.out
       clear HC21
       by_cases c27 : t113 = true
       ·subst c27
        have H1 : (order_Words.j1 kj1 t110 a0_0 a0_1 a0_2 a0_3 a0_4 a0_5 a0_6 a0_7 a0_8 a0_9) = some r := by rw [if_pos rfl] at H; exact H
        clear H
        have H := H1
        clear H1
        have H' := Aside0.mk H
        clear H
        go_wp2
        go_meet
        case rel => exact ⟨_, (t110), H', ⟨by have := HJ1.out; first | omega | exact Nat.le_refl _⟩, ⟨by (with_reducible repeat (first | apply Kd.R_alloc | apply Kd.R_drewN | apply Kd.R_drew)); exact Kd.R_mono HO112.out (fun _ hk => trivial)⟩, ⟨by (with_reducible repeat (first | refine blk_drewN ?_ _ | refine blk_drew ?_ | refine blk_alloc ?_ _)); exact BK103.out⟩, ⟨by repeat (first | (with_reducible first | exact HB.out | apply below_alloc | apply pw_below_drewN | apply below_drew1 | refine below_set ?_ GE103.out) | exact HB.out)⟩⟩
       ·replace c27 := Bool.eq_false_iff.mpr c27
        subst c27
        have H1 : (if t110.length < 8796093022208 then (order_Words.j1 kj1 (t110 ++ [a0_1]) a0_0 a0_1 a0_2 a0_3 a0_4 a0_5 a0_6 a0_7 a0_8 a0_9) else (none)) = some r := by rw [if_neg (show ¬ (false = true) by decide)] at H; exact H
        clear H
        have H := H1
        clear H1
        by_cases c28 : t110.length < 8796093022208
        ·rw [if_pos c28] at H
         have LMc28 := Aside0.mk c28
         clear c28
         obtain ⟨y114, hy114⟩ : ∃ y_ : List ByteArray, y_ = (t110 ++ [a0_1]) := ⟨_, rfl⟩
         replace H : (order_Words.j1 kj1 y114 a0_0 a0_1 a0_2 a0_3 a0_4 a0_5 a0_6 a0_7 a0_8 a0_9) = some r := by first | (rw [hy114]; with_reducible exact H) | (have H2_ := (Option.bind_some _ _).symm.trans H; rw [hy114]; with_reducible exact H2_) | (have H2_ := (Option.bind_some _ _).symm.trans H; with_reducible exact H2_) | with_reducible exact H | (rw [hy114]; exact H) | exact H
         have Ny114 := Aside0.mk hy114
         clear hy114
         have H' := Aside0.mk H
         clear H
         have hcz29_0 : w25.cell? ⟨gb103, 0, none⟩ = some (.int .i64 a0_0) := (blk_cell BK103.out 0).trans rfl
         have hcz29_1 : w25.cell? ⟨gb103, 1, none⟩ = some (.string a0_1) := (blk_cell BK103.out 1).trans rfl
         have hcz29_2 : w25.cell? ⟨gb103, 2, none⟩ = some (.string a0_2) := (blk_cell BK103.out 2).trans rfl
         have hcz29_3 : w25.cell? ⟨gb103, 3, none⟩ = some (.int .i64 a0_3) := (blk_cell BK103.out 3).trans rfl
         have hcz29_4 : w25.cell? ⟨gb103, 4, none⟩ = some (.string a0_4) := (blk_cell BK103.out 4).trans rfl
         have hcz29_5 : w25.cell? ⟨gb103, 5, none⟩ = some (.int .i64 a0_5) := (blk_cell BK103.out 5).trans rfl
         have hcz29_6 : w25.cell? ⟨gb103, 6, none⟩ = some (.bool a0_6) := (blk_cell BK103.out 6).trans rfl
         have hcz29_7 : w25.cell? ⟨gb103, 7, none⟩ = some (.int .i64 a0_7) := (blk_cell BK103.out 7).trans rfl
         have hcz29_8 : w25.cell? ⟨gb103, 8, none⟩ = some (.int .i64 a0_8) := (blk_cell BK103.out 8).trans rfl
         have hcz29_9 : w25.cell? ⟨gb103, 9, none⟩ = some (.int .i64 a0_9) := (blk_cell BK103.out 9).trans rfl
         have hfz29_0 := blk_frozen BK103.out 0
         have hfz29_1 := blk_frozen BK103.out 1
         have hfz29_2 := blk_frozen BK103.out 2
         have hfz29_3 := blk_frozen BK103.out 3
         have hfz29_4 := blk_frozen BK103.out 4
         have hfz29_5 := blk_frozen BK103.out 5
         have hfz29_6 := blk_frozen BK103.out 6
         have hfz29_7 := blk_frozen BK103.out 7
         have hfz29_8 := blk_frozen BK103.out 8
         have hfz29_9 := blk_frozen BK103.out 9
         go_wp2_with (first | ((with_reducible refine gate_builtin (b := .append) (xs := #[.tmp 34, .tmp 37]) rfl ?_); at_builtin; refine Kd.R_append Kd.string (w0 := w) w.heap.size rfl (.tmp 34) (.tmp 37) 22 9 (.string ⟨#[]⟩) 16 rfl Tryz.underlying22 info9 rfl (by decide) (by omega) v111 t110 a0_1 [.string a0_1] (fun k_ => some k_ ≠ (.slice (some ad109) t106.length co24 : Value).ownBlock) (fun _ => False) rfl rfl ?aP (fun _ hk => hk.elim) ?aF ?aO ?aB ?aS ?aL ?_; (case aP => exact rfl); (case aB => exact (by repeat (first | (with_reducible first | exact HB.out | apply below_alloc | apply pw_below_drewN | apply below_drew1 | refine below_set ?_ GE103.out) | exact HB.out))); (case aF => exact (fun k_ hk => Kd.fresh' (Kd.R_lt (by (with_reducible repeat (first | apply Kd.R_alloc | apply Kd.R_drewN | apply Kd.R_drew)); exact HO108.out)) k_ hk)); (case aO => exact (by (with_reducible repeat (first | apply Kd.R_alloc | apply Kd.R_drewN | apply Kd.R_drew)); exact Kd.R_mono HO112.out (fun _ hk => hk.2))); (case aS => exact (below_size (by repeat (first | (with_reducible first | exact HB.out | apply below_alloc | apply pw_below_drewN | apply below_drew1 | refine below_set ?_ GE103.out) | exact HB.out)))); (case aL => have := LMc28.out; omega); intro v115 w30 ho hb hg hat; rw [← Ny114.out] at ho; have n0_ := Aside0.mk (blk_grown (g := gb103) (o := .cells #[.int .i64 a0_0, .string a0_1, .string a0_2, .int .i64 a0_3, .string a0_4, .int .i64 a0_5, .bool a0_6, .int .i64 a0_7, .int .i64 a0_8, .int .i64 a0_9] 27 (0, 0)) (by (with_reducible repeat (first | refine blk_drewN ?_ _ | refine blk_drew ?_ | refine blk_alloc ?_ _)); exact BK103.out) hg (Kd.R_ne HO112.out BK103.out (by decide))); have n1_ := Aside0.mk (Kd.R_after (ok := (fun _ => True)) (by (with_reducible repeat (first | apply Kd.R_alloc | apply Kd.R_drewN | apply Kd.R_drew)); exact HO108.out) hg hat); have n2_ := Aside0.mk (hb); have n3_ := Aside0.mk (ho); clear BK103; clear HO108; clear HB; clear HO112; have BK103 := n0_; have HO108 := n1_; have HB := n2_; have HO116 := n3_; clear n0_ n1_ n2_ n3_; clear ho hb hg hat))
         go_meet
         case rel => exact ⟨_, (y114), H', ⟨by have := HJ1.out; first | omega | exact Nat.le_refl _⟩, ⟨by (with_reducible repeat (first | apply Kd.R_alloc | apply Kd.R_drewN | apply Kd.R_drew)); exact Kd.R_mono HO116.out (fun _ hk => trivial)⟩, ⟨by (with_reducible repeat (first | refine blk_drewN ?_ _ | refine blk_drew ?_ | refine blk_alloc ?_ _)); exact BK103.out⟩, ⟨by repeat (first | (with_reducible first | exact HB.out | apply below_alloc | apply pw_below_drewN | apply below_drew1 | refine below_set ?_ GE103.out) | exact HB.out)⟩⟩
        ·rw [if_neg c28] at H
         exact absurd H (by simp)
      case rest =>
       clear HC21
       try clear c1
       try clear p1
       try clear q1
       try clear hx1
       try clear c2
       try clear p2
       try clear c3
       try clear c4
       try clear c4b0
       try clear c6
       try clear c6b0
       try clear p6
       try clear c9
       try clear p10
       try clear q10
       try clear hx10
       try clear c12
       try clear c14
       try clear c17
       try clear c17b0
       try clear c18
       try clear c18b0
       try clear c24
       try clear c27
       try clear c28
       try clear hcz11_0
       try clear hcz11_1
       try clear hcz11_2
       try clear hcz11_3
       try clear hcz11_4
       try clear hcz11_5
       try clear hcz11_6
       try clear hcz11_7
       try clear hcz11_8
       try clear hcz11_9
       try clear hcz13_0
       try clear hcz13_1
       try clear hcz13_2
       try clear hcz13_3
       try clear hcz13_4
       try clear hcz13_5
       try clear hcz13_6
       try clear hcz13_7
       try clear hcz13_8
       try clear hcz13_9
       try clear hcz26_0
       try clear hcz26_1
       try clear hcz26_2
       try clear hcz26_3
       try clear hcz26_4
       try clear hcz26_5
       try clear hcz26_6
       try clear hcz26_7
       try clear hcz26_8
       try clear hcz26_9
       try clear hcz29_0
       try clear hcz29_1
       try clear hcz29_2
       try clear hcz29_3
       try clear hcz29_4
       try clear hcz29_5
       try clear hcz29_6
       try clear hcz29_7
       try clear hcz29_8
       try clear hcz29_9
       try clear hcz5_0
       try clear hcz5_1
       try clear hcz5_2
       try clear hcz5_3
       try clear hcz5_4
       try clear hcz5_5
       try clear hcz5_6
       try clear hcz5_7
       try clear hcz5_8
       try clear hcz5_9
       try clear hcz7_0
       try clear hcz7_1
       try clear hcz7_2
       try clear hcz7_3
       try clear hcz7_4
       try clear hcz7_5
       try clear hcz7_6
       try clear hcz7_7
       try clear hcz7_8
       try clear hcz7_9
       try clear hfz11_0
       try clear hfz11_1
       try clear hfz11_2
       try clear hfz11_3
       try clear hfz11_4
       try clear hfz11_5
       try clear hfz11_6
       try clear hfz11_7
       try clear hfz11_8
       try clear hfz11_9
       try clear hfz13_0
       try clear hfz13_1
       try clear hfz13_2
       try clear hfz13_3
       try clear hfz13_4
       try clear hfz13_5
       try clear hfz13_6
       try clear hfz13_7
       try clear hfz13_8
       try clear hfz13_9
       try clear hfz26_0
       try clear hfz26_1
       try clear hfz26_2
       try clear hfz26_3
       try clear hfz26_4
       try clear hfz26_5
       try clear hfz26_6
       try clear hfz26_7
       try clear hfz26_8
       try clear hfz26_9
       try clear hfz29_0
       try clear hfz29_1
       try clear hfz29_2
       try clear hfz29_3
       try clear hfz29_4
       try clear hfz29_5
       try clear hfz29_6
       try clear hfz29_7
       try clear hfz29_8
       try clear hfz29_9
       try clear hfz5_0
       try clear hfz5_1
       try clear hfz5_2
       try clear hfz5_3
       try clear hfz5_4
       try clear hfz5_5
       try clear hfz5_6
       try clear hfz5_7
       try clear hfz5_8
       try clear hfz5_9
       try clear hfz7_0
       try clear hfz7_1
       try clear hfz7_2
       try clear hfz7_3
       try clear hfz7_4
       try clear hfz7_5
       try clear hfz7_6
       try clear hfz7_7
       try clear hfz7_8
       try clear hfz7_9
       try clear hx109_0
       try clear p109
       try clear p2
       try clear q109
       obtain ⟨kq, x3_20, HA, HJ20, HO_3, BK103, HB⟩ := hcut
       cases kq with
       | zero => exact absurd HA.out (by simp [order_Words.j1])
       | succ kj20 =>
        have H := HA.out
        clear HA
        simp only [order_Words.j1] at H
        by_cases c31 : a0_0 = 1
        ·rw [if_pos c31] at H
         have c31b0 : (a0_0 == 1) = true := beq_iff_eq.mpr c31
         have c31b1 : (a0_0 != 1) = false := bne_eq_false_iff_eq.mpr c31
         clear c31
         replace H := Option.bind_eq_some_iff.mp H
         obtain ⟨t117, A320, H⟩ := H
         replace H : (if x3_20.length < 8796093022208 then (some (x3_20 ++ [t117])) else (none)) = some r := H
         have A32 := Aside0.mk A320
         clear A320
         by_cases c33 : x3_20.length < 8796093022208
         ·rw [if_pos c33] at H
          have LMc33 := Aside0.mk c33
          clear c33
          obtain ⟨y118, hy118⟩ : ∃ y_ : List ByteArray, y_ = (x3_20 ++ [t117]) := ⟨_, rfl⟩
          replace H : (some y118) = some r := by first | (rw [hy118]; with_reducible exact H) | (have H2_ := (Option.bind_some _ _).symm.trans H; rw [hy118]; with_reducible exact H2_) | (have H2_ := (Option.bind_some _ _).symm.trans H; with_reducible exact H2_) | with_reducible exact H | (rw [hy118]; exact H) | exact H
          have Ny118 := Aside0.mk hy118
          clear hy118
          obtain rfl := Option.some.inj H
          have hcz34_0 : wc.cell? ⟨gb103, 0, none⟩ = some (.int .i64 a0_0) := (blk_cell BK103.out 0).trans rfl
          have hcz34_1 : wc.cell? ⟨gb103, 1, none⟩ = some (.string a0_1) := (blk_cell BK103.out 1).trans rfl
          have hcz34_2 : wc.cell? ⟨gb103, 2, none⟩ = some (.string a0_2) := (blk_cell BK103.out 2).trans rfl
          have hcz34_3 : wc.cell? ⟨gb103, 3, none⟩ = some (.int .i64 a0_3) := (blk_cell BK103.out 3).trans rfl
          have hcz34_4 : wc.cell? ⟨gb103, 4, none⟩ = some (.string a0_4) := (blk_cell BK103.out 4).trans rfl
          have hcz34_5 : wc.cell? ⟨gb103, 5, none⟩ = some (.int .i64 a0_5) := (blk_cell BK103.out 5).trans rfl
          have hcz34_6 : wc.cell? ⟨gb103, 6, none⟩ = some (.bool a0_6) := (blk_cell BK103.out 6).trans rfl
          have hcz34_7 : wc.cell? ⟨gb103, 7, none⟩ = some (.int .i64 a0_7) := (blk_cell BK103.out 7).trans rfl
          have hcz34_8 : wc.cell? ⟨gb103, 8, none⟩ = some (.int .i64 a0_8) := (blk_cell BK103.out 8).trans rfl
          have hcz34_9 : wc.cell? ⟨gb103, 9, none⟩ = some (.int .i64 a0_9) := (blk_cell BK103.out 9).trans rfl
          have hfz34_0 := blk_frozen BK103.out 0
          have hfz34_1 := blk_frozen BK103.out 1
          have hfz34_2 := blk_frozen BK103.out 2
          have hfz34_3 := blk_frozen BK103.out 3
          have hfz34_4 := blk_frozen BK103.out 4
          have hfz34_5 := blk_frozen BK103.out 5
          have hfz34_6 := blk_frozen BK103.out 6
          have hfz34_7 := blk_frozen BK103.out 7
          have hfz34_8 := blk_frozen BK103.out 8
          have hfz34_9 := blk_frozen BK103.out 9
          go_wp2_with (first | ((with_reducible refine gate_callee (f := 36) rfl ?_); refine goesL_ (some 46) rfl rfl Tryz.func36 (by kernel_rfl) rfl #[.int .i64 a0_3] rfl (by (try simp only [List.map_toArray, List.map_cons, List.map_nil]); first | done | rfl | (simp only [List.length_drop, List.length_take]; rfl)) ?_; (with_reducible refine (tick_Text.calls a0_3 t117 _ A32.out).mono ?_); rintro e w35 ⟨rfl, hb⟩; refine ⟨_, rfl, ?_⟩; have n0_ := Aside0.mk (Kd.R_below (by (with_reducible repeat (first | apply Kd.R_alloc | apply Kd.R_drewN | apply Kd.R_drew)); exact HO_3.out) hb); have n1_ := Aside0.mk (blk_below (g := gb103) (o := .cells #[.int .i64 a0_0, .string a0_1, .string a0_2, .int .i64 a0_3, .string a0_4, .int .i64 a0_5, .bool a0_6, .int .i64 a0_7, .int .i64 a0_8, .int .i64 a0_9] 27 (0, 0)) (by (with_reducible repeat (first | refine blk_drewN ?_ _ | refine blk_drew ?_ | refine blk_alloc ?_ _)); exact BK103.out) hb); have n2_ := Aside0.mk (below_step (by repeat (first | (with_reducible first | exact HB.out | apply below_alloc | apply pw_below_drewN | apply below_drew1 | refine below_set ?_ GE103.out) | exact HB.out)) hb); clear HO_3; clear BK103; clear HB; have HO_3 := n0_; have BK103 := n1_; have HB := n2_; clear n0_ n1_ n2_; (try clear hb); (try clear hb2); (try clear hk); (try clear hi)) | ((with_reducible refine gate_builtin (b := .append) (xs := #[.tmp 43, .tmp 47]) rfl ?_); at_builtin; refine Kd.R_append Kd.string (w0 := w) w.heap.size rfl (.tmp 43) (.tmp 47) 22 9 (.string ⟨#[]⟩) 16 rfl Tryz.underlying22 info9 rfl (by decide) (by omega) u3 x3_20 t117 [.string t117] (fun _ => True) (fun _ => False) rfl rfl ?aP (fun _ hk => hk.elim) ?aF ?aO ?aB ?aS ?aL ?_; (case aP => exact rfl); (case aB => exact (by repeat (first | (with_reducible first | exact HB.out | apply below_alloc | apply pw_below_drewN | apply below_drew1 | refine below_set ?_ GE103.out) | exact HB.out))); (case aF => exact (fun _ _ => trivial)); (case aO => exact (by (with_reducible repeat (first | apply Kd.R_alloc | apply Kd.R_drewN | apply Kd.R_drew)); exact HO_3.out)); (case aS => exact (below_size (by repeat (first | (with_reducible first | exact HB.out | apply below_alloc | apply pw_below_drewN | apply below_drew1 | refine below_set ?_ GE103.out) | exact HB.out)))); (case aL => have := LMc33.out; omega); intro v119 w36 ho hb hg hat; rw [← Ny118.out] at ho; have n0_ := Aside0.mk (blk_grown (g := gb103) (o := .cells #[.int .i64 a0_0, .string a0_1, .string a0_2, .int .i64 a0_3, .string a0_4, .int .i64 a0_5, .bool a0_6, .int .i64 a0_7, .int .i64 a0_8, .int .i64 a0_9] 27 (0, 0)) (by (with_reducible repeat (first | refine blk_drewN ?_ _ | refine blk_drew ?_ | refine blk_alloc ?_ _)); exact BK103.out) hg (Kd.R_ne HO_3.out BK103.out (by decide))); have n1_ := Aside0.mk (hb); have n2_ := Aside0.mk (ho); clear BK103; clear HB; clear HO_3; have BK103 := n0_; have HB := n1_; have HO120 := n2_; clear n0_ n1_ n2_; clear ho hb hg hat))
          go_ret
          exact ⟨_, by first | rfl | (simp [errW_none, errW_some] <;> rfl) | (simp only [← hji16]; first | rfl | (simp [errW_none, errW_some] <;> rfl)) | (simp [*, errW_none, errW_some] <;> rfl), by (with_reducible repeat (first | apply Kd.R_alloc | apply Kd.R_drewN | apply Kd.R_drew)); exact HO120.out, by repeat (first | (with_reducible first | exact HB.out | apply below_alloc | apply pw_below_drewN | apply below_drew1 | refine below_set ?_ GE103.out) | exact HB.out)⟩
         ·rw [if_neg c33] at H
          exact absurd H (by simp)
        ·rw [if_neg c31] at H
         have c31b0 : (a0_0 == 1) = false := beq_eq_false_iff_ne.mpr c31
         have c31b1 : (a0_0 != 1) = true := bne_iff_ne.mpr c31
         by_cases c37 : a0_0 = 6
         ·rw [if_pos c37] at H
          have c37b0 : (a0_0 == 6) = true := beq_iff_eq.mpr c37
          have c37b1 : (a0_0 != 6) = false := bne_eq_false_iff_eq.mpr c37
          clear c37
          by_cases c38 : x3_20.length < 8796093022208
          ·rw [if_pos c38] at H
           have LMc38 := Aside0.mk c38
           clear c38
           obtain ⟨y121, hy121⟩ : ∃ y_ : List ByteArray, y_ = (x3_20 ++ [a0_2]) := ⟨_, rfl⟩
           replace H : (some y121) = some r := by first | (rw [hy121]; with_reducible exact H) | (have H2_ := (Option.bind_some _ _).symm.trans H; rw [hy121]; with_reducible exact H2_) | (have H2_ := (Option.bind_some _ _).symm.trans H; with_reducible exact H2_) | with_reducible exact H | (rw [hy121]; exact H) | exact H
           have Ny121 := Aside0.mk hy121
           clear hy121
           obtain rfl := Option.some.inj H
           have hcz39_0 : wc.cell? ⟨gb103, 0, none⟩ = some (.int .i64 a0_0) := (blk_cell BK103.out 0).trans rfl
           have hcz39_1 : wc.cell? ⟨gb103, 1, none⟩ = some (.string a0_1) := (blk_cell BK103.out 1).trans rfl
           have hcz39_2 : wc.cell? ⟨gb103, 2, none⟩ = some (.string a0_2) := (blk_cell BK103.out 2).trans rfl
           have hcz39_3 : wc.cell? ⟨gb103, 3, none⟩ = some (.int .i64 a0_3) := (blk_cell BK103.out 3).trans rfl
           have hcz39_4 : wc.cell? ⟨gb103, 4, none⟩ = some (.string a0_4) := (blk_cell BK103.out 4).trans rfl
           have hcz39_5 : wc.cell? ⟨gb103, 5, none⟩ = some (.int .i64 a0_5) := (blk_cell BK103.out 5).trans rfl
           have hcz39_6 : wc.cell? ⟨gb103, 6, none⟩ = some (.bool a0_6) := (blk_cell BK103.out 6).trans rfl
           have hcz39_7 : wc.cell? ⟨gb103, 7, none⟩ = some (.int .i64 a0_7) := (blk_cell BK103.out 7).trans rfl
           have hcz39_8 : wc.cell? ⟨gb103, 8, none⟩ = some (.int .i64 a0_8) := (blk_cell BK103.out 8).trans rfl
           have hcz39_9 : wc.cell? ⟨gb103, 9, none⟩ = some (.int .i64 a0_9) := (blk_cell BK103.out 9).trans rfl
           have hfz39_0 := blk_frozen BK103.out 0
           have hfz39_1 := blk_frozen BK103.out 1
           have hfz39_2 := blk_frozen BK103.out 2
           have hfz39_3 := blk_frozen BK103.out 3
           have hfz39_4 := blk_frozen BK103.out 4
           have hfz39_5 := blk_frozen BK103.out 5
           have hfz39_6 := blk_frozen BK103.out 6
           have hfz39_7 := blk_frozen BK103.out 7
           have hfz39_8 := blk_frozen BK103.out 8
           have hfz39_9 := blk_frozen BK103.out 9
           go_wp2_with (first | ((with_reducible refine gate_builtin (b := .append) (xs := #[.tmp 53, .tmp 56]) rfl ?_); at_builtin; refine Kd.R_append Kd.string (w0 := w) w.heap.size rfl (.tmp 53) (.tmp 56) 22 9 (.string ⟨#[]⟩) 16 rfl Tryz.underlying22 info9 rfl (by decide) (by omega) u3 x3_20 a0_2 [.string a0_2] (fun _ => True) (fun _ => False) rfl rfl ?aP (fun _ hk => hk.elim) ?aF ?aO ?aB ?aS ?aL ?_; (case aP => exact rfl); (case aB => exact (by repeat (first | (with_reducible first | exact HB.out | apply below_alloc | apply pw_below_drewN | apply below_drew1 | refine below_set ?_ GE103.out) | exact HB.out))); (case aF => exact (fun _ _ => trivial)); (case aO => exact (by (with_reducible repeat (first | apply Kd.R_alloc | apply Kd.R_drewN | apply Kd.R_drew)); exact HO_3.out)); (case aS => exact (below_size (by repeat (first | (with_reducible first | exact HB.out | apply below_alloc | apply pw_below_drewN | apply below_drew1 | refine below_set ?_ GE103.out) | exact HB.out)))); (case aL => have := LMc38.out; omega); intro v122 w40 ho hb hg hat; rw [← Ny121.out] at ho; have n0_ := Aside0.mk (blk_grown (g := gb103) (o := .cells #[.int .i64 a0_0, .string a0_1, .string a0_2, .int .i64 a0_3, .string a0_4, .int .i64 a0_5, .bool a0_6, .int .i64 a0_7, .int .i64 a0_8, .int .i64 a0_9] 27 (0, 0)) (by (with_reducible repeat (first | refine blk_drewN ?_ _ | refine blk_drew ?_ | refine blk_alloc ?_ _)); exact BK103.out) hg (Kd.R_ne HO_3.out BK103.out (by decide))); have n1_ := Aside0.mk (hb); have n2_ := Aside0.mk (ho); clear BK103; clear HB; clear HO_3; have BK103 := n0_; have HB := n1_; have HO123 := n2_; clear n0_ n1_ n2_; clear ho hb hg hat))
           go_ret
           exact ⟨_, by first | rfl | (simp [errW_none, errW_some] <;> rfl) | (simp only [← hji16]; first | rfl | (simp [errW_none, errW_some] <;> rfl)) | (simp [*, errW_none, errW_some] <;> rfl), by (with_reducible repeat (first | apply Kd.R_alloc | apply Kd.R_drewN | apply Kd.R_drew)); exact HO123.out, by repeat (first | (with_reducible first | exact HB.out | apply below_alloc | apply pw_below_drewN | apply below_drew1 | refine below_set ?_ GE103.out) | exact HB.out)⟩
          ·rw [if_neg c38] at H
           exact absurd H (by simp)
         ·rw [if_neg c37] at H
          have c37b0 : (a0_0 == 6) = false := beq_eq_false_iff_ne.mpr c37
          have c37b1 : (a0_0 != 6) = true := bne_iff_ne.mpr c37
          replace H := Option.bind_eq_some_iff.mp H
          obtain ⟨t124, A410, H⟩ := H
          replace H : (if t124 = true then ((toxic_Text.f a0_4 a0_5 a0_6 a0_7 a0_8 a0_9).bind fun t125 => ((strings_Fields.f t125).bind fun t126 => (if x3_20.length + t126.length < 8796093022208 then (some (x3_20 ++ t126)) else (none)))) else (some x3_20)) = some r := H
          have A41 := Aside0.mk A410
          clear A410
          by_cases c42 : t124 = true
          ·subst c42
           have H1 : ((toxic_Text.f a0_4 a0_5 a0_6 a0_7 a0_8 a0_9).bind fun t125 => ((strings_Fields.f t125).bind fun t126 => (if x3_20.length + t126.length < 8796093022208 then (some (x3_20 ++ t126)) else (none)))) = some r := by rw [if_pos rfl] at H; exact H
           clear H
           have H := H1
           clear H1
           replace H := Option.bind_eq_some_iff.mp H
           obtain ⟨t125, A430, H⟩ := H
           replace H : ((strings_Fields.f t125).bind fun t126 => (if x3_20.length + t126.length < 8796093022208 then (some (x3_20 ++ t126)) else (none))) = some r := H
           have A43 := Aside0.mk A430
           clear A430
           replace H := Option.bind_eq_some_iff.mp H
           obtain ⟨t126, A440, H⟩ := H
           replace H : (if x3_20.length + t126.length < 8796093022208 then (some (x3_20 ++ t126)) else (none)) = some r := H
           have A44 := Aside0.mk A440
           clear A440
           by_cases c45 : x3_20.length + t126.length < 8796093022208
           ·rw [if_pos c45] at H
            have LMc45 := Aside0.mk c45
            clear c45
            obtain ⟨y129, hy129⟩ : ∃ y_ : List ByteArray, y_ = (x3_20 ++ t126) := ⟨_, rfl⟩
            replace H : (some y129) = some r := by first | (rw [hy129]; with_reducible exact H) | (have H2_ := (Option.bind_some _ _).symm.trans H; rw [hy129]; with_reducible exact H2_) | (have H2_ := (Option.bind_some _ _).symm.trans H; with_reducible exact H2_) | with_reducible exact H | (rw [hy129]; exact H) | exact H
            have Ny129 := Aside0.mk hy129
            clear hy129
            obtain rfl := Option.some.inj H
            have hcz46_0 : wc.cell? ⟨gb103, 0, none⟩ = some (.int .i64 a0_0) := (blk_cell BK103.out 0).trans rfl
            have hcz46_1 : wc.cell? ⟨gb103, 1, none⟩ = some (.string a0_1) := (blk_cell BK103.out 1).trans rfl
            have hcz46_2 : wc.cell? ⟨gb103, 2, none⟩ = some (.string a0_2) := (blk_cell BK103.out 2).trans rfl
            have hcz46_3 : wc.cell? ⟨gb103, 3, none⟩ = some (.int .i64 a0_3) := (blk_cell BK103.out 3).trans rfl
            have hcz46_4 : wc.cell? ⟨gb103, 4, none⟩ = some (.string a0_4) := (blk_cell BK103.out 4).trans rfl
            have hcz46_5 : wc.cell? ⟨gb103, 5, none⟩ = some (.int .i64 a0_5) := (blk_cell BK103.out 5).trans rfl
            have hcz46_6 : wc.cell? ⟨gb103, 6, none⟩ = some (.bool a0_6) := (blk_cell BK103.out 6).trans rfl
            have hcz46_7 : wc.cell? ⟨gb103, 7, none⟩ = some (.int .i64 a0_7) := (blk_cell BK103.out 7).trans rfl
            have hcz46_8 : wc.cell? ⟨gb103, 8, none⟩ = some (.int .i64 a0_8) := (blk_cell BK103.out 8).trans rfl
            have hcz46_9 : wc.cell? ⟨gb103, 9, none⟩ = some (.int .i64 a0_9) := (blk_cell BK103.out 9).trans rfl
            have hfz46_0 := blk_frozen BK103.out 0
            have hfz46_1 := blk_frozen BK103.out 1
            have hfz46_2 := blk_frozen BK103.out 2
            have hfz46_3 := blk_frozen BK103.out 3
            have hfz46_4 := blk_frozen BK103.out 4
            have hfz46_5 := blk_frozen BK103.out 5
            have hfz46_6 := blk_frozen BK103.out 6
            have hfz46_7 := blk_frozen BK103.out 7
            have hfz46_8 := blk_frozen BK103.out 8
            have hfz46_9 := blk_frozen BK103.out 9
            go_wp2_with (first | ((with_reducible refine gate_callee (f := 28) rfl ?_); refine goesL_ (some 61) rfl rfl Tryz.func28 (by kernel_rfl) rfl #[.int .i64 a0_0] rfl (by (try simp only [List.map_toArray, List.map_cons, List.map_nil]); first | done | rfl | (simp only [List.length_drop, List.length_take]; rfl)) ?_; (with_reducible refine (order_toxical.calls a0_0 true _ A41.out).mono ?_); rintro e w' ⟨rfl, ⟨nd, rfl⟩⟩; refine ⟨_, rfl, ?_⟩) | ((with_reducible refine gate_callee (f := 37) rfl ?_); refine goesL_ (some 65) rfl rfl Tryz.func37 (by kernel_rfl) rfl #[.agg #[.string a0_4, .int .i64 a0_5, .bool a0_6, .int .i64 a0_7, .int .i64 a0_8, .int .i64 a0_9]] rfl (by (try simp only [List.map_toArray, List.map_cons, List.map_nil]); first | done | rfl | (simp only [List.length_drop, List.length_take]; rfl)) ?_; (with_reducible refine (toxic_Text.calls a0_4 a0_5 a0_6 a0_7 a0_8 a0_9 t125 _ A43.out).mono ?_); rintro e w47 ⟨rfl, hb⟩; refine ⟨_, rfl, ?_⟩; have n0_ := Aside0.mk (Kd.R_below (by (with_reducible repeat (first | apply Kd.R_alloc | apply Kd.R_drewN | apply Kd.R_drew)); exact HO_3.out) hb); have n1_ := Aside0.mk (blk_below (g := gb103) (o := .cells #[.int .i64 a0_0, .string a0_1, .string a0_2, .int .i64 a0_3, .string a0_4, .int .i64 a0_5, .bool a0_6, .int .i64 a0_7, .int .i64 a0_8, .int .i64 a0_9] 27 (0, 0)) (by (with_reducible repeat (first | refine blk_drewN ?_ _ | refine blk_drew ?_ | refine blk_alloc ?_ _)); exact BK103.out) hb); have n2_ := Aside0.mk (below_step (by repeat (first | (with_reducible first | exact HB.out | apply below_alloc | apply pw_below_drewN | apply below_drew1 | refine below_set ?_ GE103.out) | exact HB.out)) hb); clear HO_3; clear BK103; clear HB; have HO_3 := n0_; have BK103 := n1_; have HB := n2_; clear n0_ n1_ n2_; (try clear hb); (try clear hb2); (try clear hk); (try clear hi)) | ((with_reducible refine gate_callee (f := 35) rfl ?_); refine goesL_ (some 66) rfl rfl Tryz.func35 (by kernel_rfl) rfl #[.string t125] rfl (by (try simp only [List.map_toArray, List.map_cons, List.map_nil]); first | done | rfl | (simp only [List.length_drop, List.length_take]; rfl)) ?_; (with_reducible refine (strings_Fields.calls t125 t126 _ (⟨Ext.tab_below hT.out (by repeat (first | (with_reducible first | exact HB.out | apply below_alloc | apply pw_below_drewN | apply below_drew1 | refine below_set ?_ GE103.out) | exact HB.out))⟩) A44.out).mono ?_); rintro e w48 ⟨v127, rfl, ho0, hb⟩; refine ⟨_, rfl, ?_⟩; have n0_ := Aside0.mk (Kd.R_elder' (by (with_reducible repeat (first | apply Kd.R_alloc | apply Kd.R_drewN | apply Kd.R_drew)); exact HO_3.out) (Kd.R_base ho0) hb); have n1_ := Aside0.mk (Kd.R_lower (Kd.R_new' ho0 (Kd.R_lt (by (with_reducible repeat (first | apply Kd.R_alloc | apply Kd.R_drewN | apply Kd.R_drew)); exact HO_3.out))) (below_size (by repeat (first | (with_reducible first | exact HB.out | apply below_alloc | apply pw_below_drewN | apply below_drew1 | refine below_set ?_ GE103.out) | exact HB.out)))); have n2_ := Aside0.mk (blk_below (g := gb103) (o := .cells #[.int .i64 a0_0, .string a0_1, .string a0_2, .int .i64 a0_3, .string a0_4, .int .i64 a0_5, .bool a0_6, .int .i64 a0_7, .int .i64 a0_8, .int .i64 a0_9] 27 (0, 0)) (by (with_reducible repeat (first | refine blk_drewN ?_ _ | refine blk_drew ?_ | refine blk_alloc ?_ _)); exact BK103.out) hb); have n3_ := Aside0.mk (below_step (by repeat (first | (with_reducible first | exact HB.out | apply below_alloc | apply pw_below_drewN | apply below_drew1 | refine below_set ?_ GE103.out) | exact HB.out)) hb); clear HO_3; clear BK103; clear HB; have HO_3 := n0_; have HO128 := n1_; have BK103 := n2_; have HB := n3_; clear n0_ n1_ n2_ n3_; (try clear hb); (try clear hb2); (try clear hk); (try clear hi); (try clear ho0); obtain ⟨Ao50, co50, eo50⟩ := Kd.R_slice HO128.out; subst eo50) | ((with_reducible refine gate_builtin (b := .append) (xs := #[.tmp 62, .tmp 66]) rfl ?_); at_builtin; refine Kd.R_append_rows Kd.string (w0 := w) w.heap.size rfl (.tmp 62) (.tmp 66) 22 9 (.string ⟨#[]⟩) 16 rfl Tryz.underlying22 info9 rfl (by decide) (by omega) u3 x3_20 t126 _ _ _ (fun k_ => some k_ ≠ (.slice Ao50 t126.length co50 : Value).ownBlock) (fun _ => False) rfl rfl ?aO ?aR (fun _ _ h => h) (fun _ h => h.elim) ?aF ?aB ?aS ?aL ?_; (case aR => repeat (first | exact (Kd.R_reads' HO128.out).2.2 | (with_reducible refine Kd.C_alloc ?_ _) | (with_reducible refine Kd.C_drewN ?_ _) | (with_reducible refine Kd.C_drew ?_))); (case aB => exact (by repeat (first | (with_reducible first | exact HB.out | apply below_alloc | apply pw_below_drewN | apply below_drew1 | refine below_set ?_ GE103.out) | exact HB.out))); (case aF => exact (fun k_ hk => Kd.fresh' (Kd.R_lt (by (with_reducible repeat (first | apply Kd.R_alloc | apply Kd.R_drewN | apply Kd.R_drew)); exact HO128.out)) k_ hk)); (case aO => exact (by (with_reducible repeat (first | apply Kd.R_alloc | apply Kd.R_drewN | apply Kd.R_drew)); exact Kd.R_mono HO_3.out (fun _ hk => hk.2))); (case aS => exact (below_size (by repeat (first | (with_reducible first | exact HB.out | apply below_alloc | apply pw_below_drewN | apply below_drew1 | refine below_set ?_ GE103.out) | exact HB.out)))); (case aL => have := LMc45.out; omega); intro v130 w49 ho hb hg hat; rw [← Ny129.out] at ho; have n0_ := Aside0.mk (blk_grown (g := gb103) (o := .cells #[.int .i64 a0_0, .string a0_1, .string a0_2, .int .i64 a0_3, .string a0_4, .int .i64 a0_5, .bool a0_6, .int .i64 a0_7, .int .i64 a0_8, .int .i64 a0_9] 27 (0, 0)) (by (with_reducible repeat (first | refine blk_drewN ?_ _ | refine blk_drew ?_ | refine blk_alloc ?_ _)); exact BK103.out) hg (Kd.R_ne HO_3.out BK103.out (by decide))); have n1_ := Aside0.mk (Kd.R_after (ok := (fun _ => True)) (by (with_reducible repeat (first | apply Kd.R_alloc | apply Kd.R_drewN | apply Kd.R_drew)); exact HO128.out) hg hat); have n2_ := Aside0.mk (hb); have n3_ := Aside0.mk (ho); clear BK103; clear HO128; clear HB; clear HO_3; have BK103 := n0_; have HO128 := n1_; have HB := n2_; have HO131 := n3_; clear n0_ n1_ n2_ n3_; clear ho hb hg hat))
            go_ret
            exact ⟨_, by first | rfl | (simp [errW_none, errW_some] <;> rfl) | (simp only [← hji16]; first | rfl | (simp [errW_none, errW_some] <;> rfl)) | (simp [*, errW_none, errW_some] <;> rfl), by (with_reducible repeat (first | apply Kd.R_alloc | apply Kd.R_drewN | apply Kd.R_drew)); exact Kd.R_mono HO131.out (fun _ hk => trivial), by repeat (first | (with_reducible first | exact HB.out | apply below_alloc | apply pw_below_drewN | apply below_drew1 | refine below_set ?_ GE103.out) | exact HB.out)⟩
           ·rw [if_neg c45] at H
            exact absurd H (by simp)
          ·replace c42 := Bool.eq_false_iff.mpr c42
           subst c42
           have H1 : (some x3_20) = some r := by rw [if_neg (show ¬ (false = true) by decide)] at H; exact H
           clear H
           have H := H1
           clear H1
           obtain rfl := Option.some.inj H
           have hcz51_0 : wc.cell? ⟨gb103, 0, none⟩ = some (.int .i64 a0_0) := (blk_cell BK103.out 0).trans rfl
           have hcz51_1 : wc.cell? ⟨gb103, 1, none⟩ = some (.string a0_1) := (blk_cell BK103.out 1).trans rfl
           have hcz51_2 : wc.cell? ⟨gb103, 2, none⟩ = some (.string a0_2) := (blk_cell BK103.out 2).trans rfl
           have hcz51_3 : wc.cell? ⟨gb103, 3, none⟩ = some (.int .i64 a0_3) := (blk_cell BK103.out 3).trans rfl
           have hcz51_4 : wc.cell? ⟨gb103, 4, none⟩ = some (.string a0_4) := (blk_cell BK103.out 4).trans rfl
           have hcz51_5 : wc.cell? ⟨gb103, 5, none⟩ = some (.int .i64 a0_5) := (blk_cell BK103.out 5).trans rfl
           have hcz51_6 : wc.cell? ⟨gb103, 6, none⟩ = some (.bool a0_6) := (blk_cell BK103.out 6).trans rfl
           have hcz51_7 : wc.cell? ⟨gb103, 7, none⟩ = some (.int .i64 a0_7) := (blk_cell BK103.out 7).trans rfl
           have hcz51_8 : wc.cell? ⟨gb103, 8, none⟩ = some (.int .i64 a0_8) := (blk_cell BK103.out 8).trans rfl
           have hcz51_9 : wc.cell? ⟨gb103, 9, none⟩ = some (.int .i64 a0_9) := (blk_cell BK103.out 9).trans rfl
           have hfz51_0 := blk_frozen BK103.out 0
           have hfz51_1 := blk_frozen BK103.out 1
           have hfz51_2 := blk_frozen BK103.out 2
           have hfz51_3 := blk_frozen BK103.out 3
           have hfz51_4 := blk_frozen BK103.out 4
           have hfz51_5 := blk_frozen BK103.out 5
           have hfz51_6 := blk_frozen BK103.out 6
           have hfz51_7 := blk_frozen BK103.out 7
           have hfz51_8 := blk_frozen BK103.out 8
           have hfz51_9 := blk_frozen BK103.out 9
           go_wp2_with (first | ((with_reducible refine gate_callee (f := 28) rfl ?_); refine goesL_ (some 61) rfl rfl Tryz.func28 (by kernel_rfl) rfl #[.int .i64 a0_0] rfl (by (try simp only [List.map_toArray, List.map_cons, List.map_nil]); first | done | rfl | (simp only [List.length_drop, List.length_take]; rfl)) ?_; (with_reducible refine (order_toxical.calls a0_0 false _ A41.out).mono ?_); rintro e w' ⟨rfl, ⟨nd, rfl⟩⟩; refine ⟨_, rfl, ?_⟩))
           go_ret
           exact ⟨_, by first | rfl | (simp [errW_none, errW_some] <;> rfl) | (simp only [← hji16]; first | rfl | (simp [errW_none, errW_some] <;> rfl)) | (simp [*, errW_none, errW_some] <;> rfl), by (with_reducible repeat (first | apply Kd.R_alloc | apply Kd.R_drewN | apply Kd.R_drew)); exact HO_3.out, by repeat (first | (with_reducible first | exact HB.out | apply below_alloc | apply pw_below_drewN | apply below_drew1 | refine below_set ?_ GE103.out) | exact HB.out)⟩
     ·rw [if_neg c18] at H
      exact absurd H (by simp)
    ·rw [if_neg c17] at H
     exact absurd H (by simp)
end Go.Proofs.YtlglbpjccpdloaaGreatDoor.POrdB
namespace Go.Proofs.YtlglbpjccpdloaaGreatDoor.POrdB
open Go.Proofs.YtlglbpjccpdloaaGreatDoor.Ext Go.Proofs.YtlglbpjccpdloaaGreatDoor.ToxZ Go.Proofs.YtlglbpjccpdloaaGreatDoor.PWrdA Go.RowKit Go.Proofs.YtlglbpjccpdloaaGreatDoorW.PrintWords Go.Proofs.YtlglbpjccpdloaaGreatDoorW.PrintLast Go.Proofs.YtlglbpjccpdloaaGreatDoorW.PrintMore
attribute [local go_sem] max2_int min2_int max_two min_two max_three min_three max_four min_four   -- for this text's walks alone
set_option linter.unusedVariables false
set_option linter.unusedSimpArgs false
mutual
def chicaneref16_toxic.l0 : Nat → List ByteArray → ByteArray → Int → Option (ByteArray × Int × Bool × Int × Int × Int × Int)
 | 0, _, _, _ => none
 | k + 1, x0, x4, x5 => if x5 < (x0.length : Int) then (chicaneref16_toxic.l1 k x0 x4 x5 0) else ((chicaneref09_Parse.f x4).bind fun bt133 => (some (bt133.1, bt133.2.1, bt133.2.2.1, bt133.2.2.2.1, bt133.2.2.2.2.1, bt133.2.2.2.2.2.1, bt133.2.2.2.2.2.2)))
def chicaneref16_toxic.l1 : Nat → List ByteArray → ByteArray → Int → Int → Option (ByteArray × Int × Bool × Int × Int × Int × Int)
 | 0, _, _, _, _ => none
 | k + 1, x0, x4, x5, x6 => if 0 ≤ x5 then (if x5 < (x0.length : Int) then (if x6 < ((rdOf ByteArray.empty x0 x5).size : Int) then (if 0 ≤ x6 then (if (bt (rdOf ByteArray.empty x0 x5) x6) = 32 then (some ((⟨#[]⟩ : ByteArray), 0, false, 0, 0, 0, 90)) else (if (bt (rdOf ByteArray.empty x0 x5) x6) = 9 then (some ((⟨#[]⟩ : ByteArray), 0, false, 0, 0, 0, 90)) else (chicaneref16_toxic.l1 k x0 x4 x5 (wrap64 (x6 + 1))))) else (none)) else (if (rdOf ByteArray.empty x0 x5).toList = ([] : List UInt8) then (some ((⟨#[]⟩ : ByteArray), 0, false, 0, 0, 0, 90)) else (if x5 > 0 then (if x4.size + 1 ≤ 9223372036854775807 then (if (x4 ++ (⟨#[32]⟩ : ByteArray)).size + (rdOf ByteArray.empty x0 x5).size ≤ 9223372036854775807 then (chicaneref16_toxic.l0 k x0 ((x4 ++ (⟨#[32]⟩ : ByteArray)) ++ (rdOf ByteArray.empty x0 x5)) (wrap64 (x5 + 1))) else (none)) else (none)) else (if x4.size + (rdOf ByteArray.empty x0 x5).size ≤ 9223372036854775807 then (chicaneref16_toxic.l0 k x0 (x4 ++ (rdOf ByteArray.empty x0 x5)) (wrap64 (x5 + 1))) else (none))))) else (none)) else (none)
end
def chicaneref16_toxic.f (k : Nat) (l0 : List ByteArray) : Option (ByteArray × Int × Bool × Int × Int × Int × Int) := chicaneref16_toxic.l0 k l0 (⟨#[]⟩ : ByteArray) 0
theorem chicaneref16_toxic.mono_l : ∀ k, (∀ y0 y1 y2, LeO (chicaneref16_toxic.l0 k y0 y1 y2) (chicaneref16_toxic.l0 (k + 1) y0 y1 y2)) ∧ (∀ y0 y1 y2 y3, LeO (chicaneref16_toxic.l1 k y0 y1 y2 y3) (chicaneref16_toxic.l1 (k + 1) y0 y1 y2 y3))
 | 0 => ⟨fun _ _ _ r h => by simp [chicaneref16_toxic.l0] at h, fun _ _ _ _ r h => by simp [chicaneref16_toxic.l1] at h⟩
 | k + 1 => by
  obtain ⟨ih0, ih1⟩ := chicaneref16_toxic.mono_l k
  refine ⟨?_, ?_⟩
  ·intro y0 y1 y2
   unfold chicaneref16_toxic.l0
   repeat' first
   | (with_reducible exact ih0 _ _ _)
   | (with_reducible exact ih1 _ _ _ _)
   | (with_reducible exact LeO.refl _)
   | (with_reducible exact LeO.none _)
   | (with_reducible refine LeO.ite ?_ ?_)
   | (with_reducible refine LeO.bind ?_ (fun _ => ?_))
   | exact ih0 _ _ _
   | exact ih1 _ _ _ _
   | exact LeO.none _
   | refine LeO.ite ?_ ?_
   | refine LeO.bind ?_ (fun _ => ?_)
  ·intro y0 y1 y2 y3
   unfold chicaneref16_toxic.l1
   repeat' first
   | (with_reducible exact ih0 _ _ _)
   | (with_reducible exact ih1 _ _ _ _)
   | (with_reducible exact LeO.refl _)
   | (with_reducible exact LeO.none _)
   | (with_reducible refine LeO.ite ?_ ?_)
   | (with_reducible refine LeO.bind ?_ (fun _ => ?_))
   | exact ih0 _ _ _
   | exact ih1 _ _ _ _
   | exact LeO.none _
   | refine LeO.ite ?_ ?_
   | refine LeO.bind ?_ (fun _ => ?_)
theorem chicaneref16_toxic.mono : ∀ a0 k, LeO (chicaneref16_toxic.f k a0) (chicaneref16_toxic.f (k + 1) a0) := by
 intro a0 k
 obtain ⟨ih0, ih1⟩ := chicaneref16_toxic.mono_l k
 unfold chicaneref16_toxic.f
 repeat' first
   | (with_reducible exact ih0 _ _ _)
   | (with_reducible exact ih1 _ _ _ _)
   | (with_reducible exact LeO.refl _)
   | (with_reducible exact LeO.none _)
   | (with_reducible refine LeO.ite ?_ ?_)
   | (with_reducible refine LeO.bind ?_ (fun _ => ?_))
   | exact ih0 _ _ _
   | exact ih1 _ _ _ _
   | exact LeO.none _
   | refine LeO.ite ?_ ?_
   | refine LeO.bind ?_ (fun _ => ?_)
end Go.Proofs.YtlglbpjccpdloaaGreatDoor.POrdB
namespace Go.Proofs.YtlglbpjccpdloaaGreatDoor.POrdB
open Go.Proofs.YtlglbpjccpdloaaGreatDoor.Ext Go.Proofs.YtlglbpjccpdloaaGreatDoor.ToxZ Go.Proofs.YtlglbpjccpdloaaGreatDoor.PWrdA Go.RowKit Go.Proofs.YtlglbpjccpdloaaGreatDoorW.PrintWords Go.Proofs.YtlglbpjccpdloaaGreatDoorW.PrintLast Go.Proofs.YtlglbpjccpdloaaGreatDoorW.PrintMore
attribute [local go_sem] max2_int min2_int max_two min_two max_three min_three max_four min_four   -- for this text's walks alone
set_option linter.unusedVariables false
set_option linter.unusedSimpArgs false
mutual
def chicaneref16_Words.j0 : Nat → List ByteArray → Int → Bool → Int → ByteArray → ByteArray → Int → ByteArray → Int → Bool → Int → Int → Int → Option (List ByteArray)
 | 0, _, _, _, _, _, _, _, _, _, _, _, _, _ => none
 | k + 1, x3, x11, x22, x172000, x172001, x172002, x172003, x172004, x172005, x172006, x172007, x172008, x172009 => if x22 = true then (if x3.length < 8796093022208 then (some (x3 ++ [x172001])) else (none)) else (if x11 = 6 then ((some (([x172001, x172002] : List ByteArray) : List ByteArray)).bind fun y191 => (if x3.length + y191.length < 8796093022208 then (some (x3 ++ y191)) else (none))) else (if x11 = 5 then (chicaneref16_Words.j1 k x3 (x11 == 5) x172000 x172001 x172002 x172003 x172004 x172005 x172006 x172007 x172008 x172009) else (chicaneref16_Words.j1 k x3 (x11 == 7) x172000 x172001 x172002 x172003 x172004 x172005 x172006 x172007 x172008 x172009)))
def chicaneref16_Words.j1 : Nat → List ByteArray → Bool → Int → ByteArray → ByteArray → Int → ByteArray → Int → Bool → Int → Int → Int → Option (List ByteArray)
 | 0, _, _, _, _, _, _, _, _, _, _, _, _ => none
 | k + 1, x3, x41, x172000, x172001, x172002, x172003, x172004, x172005, x172006, x172007, x172008, x172009 => if x41 = true then ((chicaneref09_Text.f x172004 x172005 x172006 x172007 x172008 x172009).bind fun t197 => (if t197.toList = ([] : List UInt8) then (some ([] : List ByteArray)) else (if x3.length < 8796093022208 then ((some (x3 ++ [x172001] : List ByteArray)).bind fun y198 => ((chicaneref09_Split.f t197).bind fun t201 => (if y198.length + t201.length < 8796093022208 then (some (y198 ++ t201)) else (none)))) else (none)))) else (some x3)
end
def chicaneref16_Words.f (k : Nat) (a0_0 : Int) (a0_1 : ByteArray) (a0_2 : ByteArray) (a0_3 : Int) (a0_4 : ByteArray) (a0_5 : Int) (a0_6 : Bool) (a0_7 : Int) (a0_8 : Int) (a0_9 : Int) : Option (List ByteArray) := (some (([] : List ByteArray) : List ByteArray)).bind fun y172 => ((chicaneref16_Verb.f a0_0).bind fun t175 => (if y172.length + t175.length < 8796093022208 then ((some (y172 ++ t175 : List ByteArray)).bind fun y178 => (if a0_0 = 1 then ((chicaneref01_Text.f a0_3).bind fun t181 => ((some (([a0_1, t181] : List ByteArray) : List ByteArray)).bind fun y182 => (if y178.length + y182.length < 8796093022208 then (some (y178 ++ y182)) else (none)))) else (if a0_0 = 2 then (chicaneref16_Words.j0 k y178 a0_0 (a0_0 == 2) a0_0 a0_1 a0_2 a0_3 a0_4 a0_5 a0_6 a0_7 a0_8 a0_9) else (if a0_0 = 3 then (chicaneref16_Words.j0 k y178 a0_0 (a0_0 == 3) a0_0 a0_1 a0_2 a0_3 a0_4 a0_5 a0_6 a0_7 a0_8 a0_9) else (if a0_0 = 4 then (chicaneref16_Words.j0 k y178 a0_0 (a0_0 == 4) a0_0 a0_1 a0_2 a0_3 a0_4 a0_5 a0_6 a0_7 a0_8 a0_9) else (chicaneref16_Words.j0 k y178 a0_0 (a0_0 == 9) a0_0 a0_1 a0_2 a0_3 a0_4 a0_5 a0_6 a0_7 a0_8 a0_9)))))) else (none)))
theorem chicaneref16_Words.mono_l : ∀ k, (∀ y0 y1 y2 y3 y4 y5 y6 y7 y8 y9 y10 y11 y12, LeO (chicaneref16_Words.j0 k y0 y1 y2 y3 y4 y5 y6 y7 y8 y9 y10 y11 y12) (chicaneref16_Words.j0 (k + 1) y0 y1 y2 y3 y4 y5 y6 y7 y8 y9 y10 y11 y12)) ∧ (∀ y0 y1 y2 y3 y4 y5 y6 y7 y8 y9 y10 y11, LeO (chicaneref16_Words.j1 k y0 y1 y2 y3 y4 y5 y6 y7 y8 y9 y10 y11) (chicaneref16_Words.j1 (k + 1) y0 y1 y2 y3 y4 y5 y6 y7 y8 y9 y10 y11))
 | 0 => ⟨fun _ _ _ _ _ _ _ _ _ _ _ _ _ r h => by simp [chicaneref16_Words.j0] at h, fun _ _ _ _ _ _ _ _ _ _ _ _ r h => by simp [chicaneref16_Words.j1] at h⟩
 | k + 1 => by
  obtain ⟨ih0, ih1⟩ := chicaneref16_Words.mono_l k
  refine ⟨?_, ?_⟩
  ·intro y0 y1 y2 y3 y4 y5 y6 y7 y8 y9 y10 y11 y12
   unfold chicaneref16_Words.j0
   repeat' first
   | (with_reducible exact ih0 _ _ _ _ _ _ _ _ _ _ _ _ _)
   | (with_reducible exact ih1 _ _ _ _ _ _ _ _ _ _ _ _)
   | (with_reducible exact LeO.refl _)
   | (with_reducible exact LeO.none _)
   | (with_reducible refine LeO.ite ?_ ?_)
   | (with_reducible refine LeO.bind ?_ (fun _ => ?_))
   | exact ih0 _ _ _ _ _ _ _ _ _ _ _ _ _
   | exact ih1 _ _ _ _ _ _ _ _ _ _ _ _
   | exact LeO.none _
   | refine LeO.ite ?_ ?_
   | refine LeO.bind ?_ (fun _ => ?_)
  ·intro y0 y1 y2 y3 y4 y5 y6 y7 y8 y9 y10 y11
   unfold chicaneref16_Words.j1
   repeat' first
   | (with_reducible exact ih0 _ _ _ _ _ _ _ _ _ _ _ _ _)
   | (with_reducible exact ih1 _ _ _ _ _ _ _ _ _ _ _ _)
   | (with_reducible exact LeO.refl _)
   | (with_reducible exact LeO.none _)
   | (with_reducible refine LeO.ite ?_ ?_)
   | (with_reducible refine LeO.bind ?_ (fun _ => ?_))
   | exact ih0 _ _ _ _ _ _ _ _ _ _ _ _ _
   | exact ih1 _ _ _ _ _ _ _ _ _ _ _ _
   | exact LeO.none _
   | refine LeO.ite ?_ ?_
   | refine LeO.bind ?_ (fun _ => ?_)
theorem chicaneref16_Words.mono : ∀ a0 a1 a2 a3 a4 a5 a6 a7 a8 a9 k, LeO (chicaneref16_Words.f k a0 a1 a2 a3 a4 a5 a6 a7 a8 a9) (chicaneref16_Words.f (k + 1) a0 a1 a2 a3 a4 a5 a6 a7 a8 a9) := by
 intro a0 a1 a2 a3 a4 a5 a6 a7 a8 a9 k
 obtain ⟨ih0, ih1⟩ := chicaneref16_Words.mono_l k
 unfold chicaneref16_Words.f
 repeat' first
   | (with_reducible exact ih0 _ _ _ _ _ _ _ _ _ _ _ _ _)
   | (with_reducible exact ih1 _ _ _ _ _ _ _ _ _ _ _ _)
   | (with_reducible exact LeO.refl _)
   | (with_reducible exact LeO.none _)
   | (with_reducible refine LeO.ite ?_ ?_)
   | (with_reducible refine LeO.bind ?_ (fun _ => ?_))
   | exact ih0 _ _ _ _ _ _ _ _ _ _ _ _ _
   | exact ih1 _ _ _ _ _ _ _ _ _ _ _ _
   | exact LeO.none _
   | refine LeO.ite ?_ ?_
   | refine LeO.bind ?_ (fun _ => ?_)
def chicaneref01_Top.f  : Option (Int) := some 1099511627776
def chicaneref01_Near.f (a0 : Int) : Option (Int) := if a0 < 0 then (some 0) else ((chicaneref01_Top.f).bind fun t207 => (if a0 > t207 then ((chicaneref01_Top.f).bind fun t208 => (some t208)) else (some a0)))
end Go.Proofs.YtlglbpjccpdloaaGreatDoor.POrdB
set_option linter.unusedVariables false
set_option linter.unusedSimpArgs false
namespace Go.Proofs.YtlglbpjccpdloaaGreatDoor.Ext
open Go.RowKit Go.Proofs.YtlglbpjccpdloaaGreatDoorW.PrintWords Go.Proofs.YtlglbpjccpdloaaGreatDoorW.PrintLast Go.Proofs.YtlglbpjccpdloaaGreatDoor.PWrdA Go.Proofs.YtlglbpjccpdloaaGreatDoor.ToxZ Go.Proofs.YtlglbpjccpdloaaGreatDoor.Tox Go.Proofs.YtlglbpjccpdloaaGreatDoor.ToxPlain Go.Proofs.YtlglbpjccpdloaaGreatDoor.POrdB Go.Proofs.YtlglbpjccpdloaaGreatDoor.ToxRef
def vb (n : Int) : List ByteArray := if 1 ≤ n ∧ n ≤ 10 then vw.getD (n - 1).toNat [] else []
theorem vb_len (n : Int) : (vb n).length ≤ 2 := by
  by_cases h : 1 ≤ n ∧ n ≤ 10
  · have h' : n = 1 ∨ n = 2 ∨ n = 3 ∨ n = 4 ∨ n = 5 ∨ n = 6 ∨ n = 7 ∨ n = 8 ∨ n = 9 ∨ n = 10 := by omega
    rcases h' with rfl | rfl | rfl | rfl | rfl | rfl | rfl | rfl | rfl | rfl <;> decide
  · rw [vb, if_neg h]; decide
theorem bt_at (s : ByteArray) (i : Nat) (h : i < s.size) : bt s (i : Int) = (((s[i]'h).toNat : Nat) : Int) := by
  simp [bt, h]
end Go.Proofs.YtlglbpjccpdloaaGreatDoor.Ext
namespace Go.Proofs.YtlglbpjccpdloaaGreatDoor.POrdB
open Go.Proofs.YtlglbpjccpdloaaGreatDoor.Ext Go.Proofs.YtlglbpjccpdloaaGreatDoor.ToxZ Go.Proofs.YtlglbpjccpdloaaGreatDoor.PWrdA Go.RowKit Go.Proofs.YtlglbpjccpdloaaGreatDoorW.PrintWords Go.Proofs.YtlglbpjccpdloaaGreatDoorW.PrintLast Go.Proofs.YtlglbpjccpdloaaGreatDoorW.PrintMore
attribute [local go_sem] max2_int min2_int max_two min_two max_three min_three max_four min_four   -- for this text's walks alone
set_option linter.unusedVariables false
set_option linter.unusedSimpArgs false
theorem eqA25 (d : Nat) (w : World) (x0 y0 : ByteArray) (x1 y1 : Int) (x2 y2 : Bool) (x3 y3 : Int) (x4 y4 : Int) (x5 y5 : Int) :
  (Op.equalIn (d + 2) 25 (.agg #[.string x0, .int .i64 x1, .bool x2, .int .i64 x3, .int .i64 x4, .int .i64 x5]) (.agg #[.string y0, .int .i64 y1, .bool y2, .int .i64 y3, .int .i64 y4, .int .i64 y5])).run Tryz.prog w = .ok (x0.toList == y0.toList && (x1 == y1 && (x2 == y2 && (x3 == y3 && (x4 == y4 && (x5 == y5)))))) w := by
 refine eqA_of Tryz.underlying25 (by kernel_rfl) ?_
 refine eqf_cons (by rfl) (by go_simp; rfl) (by go_simp; rfl) (by go_simp) ?_
 refine eqf_cons (by rfl) (by go_simp; rfl) (by go_simp; rfl) (by go_simp) ?_
 refine eqf_cons (by rfl) (by go_simp; rfl) (by go_simp; rfl) (by go_simp) ?_
 refine eqf_cons (by rfl) (by go_simp; rfl) (by go_simp; rfl) (by go_simp) ?_
 refine eqf_cons (by rfl) (by go_simp; rfl) (by go_simp; rfl) (by go_simp) ?_
 exact eqf_last (by rfl) (by go_simp; rfl) (by go_simp; rfl) (by go_simp)
end Go.Proofs.YtlglbpjccpdloaaGreatDoor.POrdB
namespace Go.Proofs.YtlglbpjccpdloaaGreatDoor.POrdB
open Go.Proofs.YtlglbpjccpdloaaGreatDoor.Ext Go.Proofs.YtlglbpjccpdloaaGreatDoor.ToxZ Go.Proofs.YtlglbpjccpdloaaGreatDoor.PWrdA Go.RowKit Go.Proofs.YtlglbpjccpdloaaGreatDoorW.PrintWords Go.Proofs.YtlglbpjccpdloaaGreatDoorW.PrintLast Go.Proofs.YtlglbpjccpdloaaGreatDoorW.PrintMore
attribute [local go_sem] max2_int min2_int max_two min_two max_three min_three max_four min_four   -- for this text's walks alone
set_option linter.unusedVariables false
set_option linter.unusedSimpArgs false
attribute [local go_sem high] eqA25
mutual
def chicaneref16_Clean.j0 : Nat → Bool → Int → ByteArray → ByteArray → Int → ByteArray → Int → Bool → Int → Int → Int → Option (Bool)
 | 0, _, _, _, _, _, _, _, _, _, _, _ => none
 | k + 1, x11, x210000, x210001, x210002, x210003, x210004, x210005, x210006, x210007, x210008, x210009 => if x11 = true then (some false) else (if x210000 = 6 then (chicaneref16_Clean.j1 k false x210000 x210001 x210002 x210003 x210004 x210005 x210006 x210007 x210008 x210009) else (chicaneref16_Clean.j1 k (x210002.toList != ([] : List UInt8)) x210000 x210001 x210002 x210003 x210004 x210005 x210006 x210007 x210008 x210009))
def chicaneref16_Clean.j1 : Nat → Bool → Int → ByteArray → ByteArray → Int → ByteArray → Int → Bool → Int → Int → Int → Option (Bool)
 | 0, _, _, _, _, _, _, _, _, _, _, _ => none
 | k + 1, x19, x210000, x210001, x210002, x210003, x210004, x210005, x210006, x210007, x210008, x210009 => if x19 = true then (some false) else (if x210000 = 8 then (if x210001.toList = ([] : List UInt8) then (if x210000 = 5 then ((chicaneref01_Near.f x210003).bind fun t210 => (some (t210 == x210003))) else (if x210000 = 7 then ((chicaneref01_Near.f x210003).bind fun t211 => (some (t211 == x210003))) else (if (x210004.toList == ([] : List UInt8) && (x210005 == 0 && (!x210006 && (x210007 == 0 && (x210008 == 0 && (x210009 == 0)))))) = true then ((chicaneref01_Near.f x210003).bind fun t212 => (some (t212 == x210003))) else (some false)))) else (some false)) else (if x210000 = 10 then (if x210001.toList = ([] : List UInt8) then (if x210000 = 5 then ((chicaneref01_Near.f x210003).bind fun t213 => (some (t213 == x210003))) else (if x210000 = 7 then ((chicaneref01_Near.f x210003).bind fun t214 => (some (t214 == x210003))) else (if (x210004.toList == ([] : List UInt8) && (x210005 == 0 && (!x210006 && (x210007 == 0 && (x210008 == 0 && (x210009 == 0)))))) = true then ((chicaneref01_Near.f x210003).bind fun t215 => (some (t215 == x210003))) else (some false)))) else (some false)) else (if x210000 = 5 then ((chicaneref01_Near.f x210003).bind fun t216 => (some (t216 == x210003))) else (if x210000 = 7 then ((chicaneref01_Near.f x210003).bind fun t217 => (some (t217 == x210003))) else (if (x210004.toList == ([] : List UInt8) && (x210005 == 0 && (!x210006 && (x210007 == 0 && (x210008 == 0 && (x210009 == 0)))))) = true then ((chicaneref01_Near.f x210003).bind fun t218 => (some (t218 == x210003))) else (some false))))))
end
def chicaneref16_Clean.f (k : Nat) (a0_0 : Int) (a0_1 : ByteArray) (a0_2 : ByteArray) (a0_3 : Int) (a0_4 : ByteArray) (a0_5 : Int) (a0_6 : Bool) (a0_7 : Int) (a0_8 : Int) (a0_9 : Int) : Option (Bool) := if a0_0 = 1 then (chicaneref16_Clean.j0 k false a0_0 a0_1 a0_2 a0_3 a0_4 a0_5 a0_6 a0_7 a0_8 a0_9) else (chicaneref16_Clean.j0 k (a0_3 != 0) a0_0 a0_1 a0_2 a0_3 a0_4 a0_5 a0_6 a0_7 a0_8 a0_9)
theorem chicaneref16_Clean.mono_l : ∀ k, (∀ y0 y1 y2 y3 y4 y5 y6 y7 y8 y9 y10, LeO (chicaneref16_Clean.j0 k y0 y1 y2 y3 y4 y5 y6 y7 y8 y9 y10) (chicaneref16_Clean.j0 (k + 1) y0 y1 y2 y3 y4 y5 y6 y7 y8 y9 y10)) ∧ (∀ y0 y1 y2 y3 y4 y5 y6 y7 y8 y9 y10, LeO (chicaneref16_Clean.j1 k y0 y1 y2 y3 y4 y5 y6 y7 y8 y9 y10) (chicaneref16_Clean.j1 (k + 1) y0 y1 y2 y3 y4 y5 y6 y7 y8 y9 y10))
 | 0 => ⟨fun _ _ _ _ _ _ _ _ _ _ _ r h => by simp [chicaneref16_Clean.j0] at h, fun _ _ _ _ _ _ _ _ _ _ _ r h => by simp [chicaneref16_Clean.j1] at h⟩
 | k + 1 => by
  obtain ⟨ih0, ih1⟩ := chicaneref16_Clean.mono_l k
  refine ⟨?_, ?_⟩
  ·intro y0 y1 y2 y3 y4 y5 y6 y7 y8 y9 y10
   unfold chicaneref16_Clean.j0
   repeat' first
   | (with_reducible exact ih0 _ _ _ _ _ _ _ _ _ _ _)
   | (with_reducible exact ih1 _ _ _ _ _ _ _ _ _ _ _)
   | (with_reducible exact LeO.refl _)
   | (with_reducible exact LeO.none _)
   | (with_reducible refine LeO.ite ?_ ?_)
   | (with_reducible refine LeO.bind ?_ (fun _ => ?_))
   | exact ih0 _ _ _ _ _ _ _ _ _ _ _
   | exact ih1 _ _ _ _ _ _ _ _ _ _ _
   | exact LeO.none _
   | refine LeO.ite ?_ ?_
   | refine LeO.bind ?_ (fun _ => ?_)
  ·intro y0 y1 y2 y3 y4 y5 y6 y7 y8 y9 y10
   unfold chicaneref16_Clean.j1
   repeat' first
   | (with_reducible exact ih0 _ _ _ _ _ _ _ _ _ _ _)
   | (with_reducible exact ih1 _ _ _ _ _ _ _ _ _ _ _)
   | (with_reducible exact LeO.refl _)
   | (with_reducible exact LeO.none _)
   | (with_reducible refine LeO.ite ?_ ?_)
   | (with_reducible refine LeO.bind ?_ (fun _ => ?_))
   | exact ih0 _ _ _ _ _ _ _ _ _ _ _
   | exact ih1 _ _ _ _ _ _ _ _ _ _ _
   | exact LeO.none _
   | refine LeO.ite ?_ ?_
   | refine LeO.bind ?_ (fun _ => ?_)
theorem chicaneref16_Clean.mono : ∀ a0 a1 a2 a3 a4 a5 a6 a7 a8 a9 k, LeO (chicaneref16_Clean.f k a0 a1 a2 a3 a4 a5 a6 a7 a8 a9) (chicaneref16_Clean.f (k + 1) a0 a1 a2 a3 a4 a5 a6 a7 a8 a9) := by
 intro a0 a1 a2 a3 a4 a5 a6 a7 a8 a9 k
 obtain ⟨ih0, ih1⟩ := chicaneref16_Clean.mono_l k
 unfold chicaneref16_Clean.f
 repeat' first
   | (with_reducible exact ih0 _ _ _ _ _ _ _ _ _ _ _)
   | (with_reducible exact ih1 _ _ _ _ _ _ _ _ _ _ _)
   | (with_reducible exact LeO.refl _)
   | (with_reducible exact LeO.none _)
   | (with_reducible refine LeO.ite ?_ ?_)
   | (with_reducible refine LeO.bind ?_ (fun _ => ?_))
   | exact ih0 _ _ _ _ _ _ _ _ _ _ _
   | exact ih1 _ _ _ _ _ _ _ _ _ _ _
   | exact LeO.none _
   | refine LeO.ite ?_ ?_
   | refine LeO.bind ?_ (fun _ => ?_)
end Go.Proofs.YtlglbpjccpdloaaGreatDoor.POrdB
set_option linter.unusedVariables false
set_option linter.unusedSimpArgs false
namespace Go.Proofs.YtlglbpjccpdloaaGreatDoor.Ext
open Go.RowKit Go.Proofs.YtlglbpjccpdloaaGreatDoorW.PrintWords Go.Proofs.YtlglbpjccpdloaaGreatDoorW.PrintLast Go.Proofs.YtlglbpjccpdloaaGreatDoor.PWrdA Go.Proofs.YtlglbpjccpdloaaGreatDoor.ToxZ Go.Proofs.YtlglbpjccpdloaaGreatDoor.Tox Go.Proofs.YtlglbpjccpdloaaGreatDoor.ToxPlain Go.Proofs.YtlglbpjccpdloaaGreatDoor.POrdB
instance (v : Int) (p m : ByteArray) (n : Int) (t0 : ByteArray) (t1 : Int) (t2 : Bool) (t3 t4 t5 : Int) : Decidable (CleanO v p m n t0 t1 t2 t3 t4 t5) := by unfold CleanO; infer_instance
end Go.Proofs.YtlglbpjccpdloaaGreatDoor.Ext
namespace Go.Proofs.YtlglbpjccpdloaaGreatDoor.POrdB
open Go.Proofs.YtlglbpjccpdloaaGreatDoor.Ext Go.Proofs.YtlglbpjccpdloaaGreatDoor.ToxZ Go.Proofs.YtlglbpjccpdloaaGreatDoor.PWrdA Go.RowKit Go.Proofs.YtlglbpjccpdloaaGreatDoorW.PrintWords Go.Proofs.YtlglbpjccpdloaaGreatDoorW.PrintLast Go.Proofs.YtlglbpjccpdloaaGreatDoorW.PrintMore
attribute [local go_sem] max2_int min2_int max_two min_two max_three min_three max_four min_four   -- for this text's walks alone
set_option linter.unusedVariables false
set_option linter.unusedSimpArgs false
theorem eqA27 (d : Nat) (w : World) (x0 y0 : Int) (x1 y1 : ByteArray) (x2 y2 : ByteArray) (x3 y3 : Int) (x4 y4 : ByteArray) (x5 y5 : Int) (x6 y6 : Bool) (x7 y7 : Int) (x8 y8 : Int) (x9 y9 : Int) :
  (Op.equalIn (d + 3) 27 (.agg #[.int .i64 x0, .string x1, .string x2, .int .i64 x3, .string x4, .int .i64 x5, .bool x6, .int .i64 x7, .int .i64 x8, .int .i64 x9]) (.agg #[.int .i64 y0, .string y1, .string y2, .int .i64 y3, .string y4, .int .i64 y5, .bool y6, .int .i64 y7, .int .i64 y8, .int .i64 y9])).run Tryz.prog w = .ok (x0 == y0 && (x1.toList == y1.toList && (x2.toList == y2.toList && (x3 == y3 && ((x4.toList == y4.toList && (x5 == y5 && (x6 == y6 && (x7 == y7 && (x8 == y8 && (x9 == y9))))))))))) w := by
 refine eqA_of Tryz.underlying27 (by kernel_rfl) ?_
 refine eqf_cons (by rfl) (by go_simp; rfl) (by go_simp; rfl) (by go_simp) ?_
 refine eqf_cons (by rfl) (by go_simp; rfl) (by go_simp; rfl) (by go_simp) ?_
 refine eqf_cons (by rfl) (by go_simp; rfl) (by go_simp; rfl) (by go_simp) ?_
 refine eqf_cons (by rfl) (by go_simp; rfl) (by go_simp; rfl) (by go_simp) ?_
 exact eqf_last (by rfl) (by go_simp) (by go_simp) (eqA25 (d + 0) w _ _ _ _ _ _ _ _ _ _ _ _)
end Go.Proofs.YtlglbpjccpdloaaGreatDoor.POrdB
namespace Go.Proofs.YtlglbpjccpdloaaGreatDoor.POrdB
open Go.Proofs.YtlglbpjccpdloaaGreatDoor.Ext Go.Proofs.YtlglbpjccpdloaaGreatDoor.ToxZ Go.Proofs.YtlglbpjccpdloaaGreatDoor.PWrdA Go.RowKit Go.Proofs.YtlglbpjccpdloaaGreatDoorW.PrintWords Go.Proofs.YtlglbpjccpdloaaGreatDoorW.PrintLast Go.Proofs.YtlglbpjccpdloaaGreatDoorW.PrintMore
attribute [local go_sem] max2_int min2_int max_two min_two max_three min_three max_four min_four   -- for this text's walks alone
set_option linter.unusedVariables false
set_option linter.unusedSimpArgs false
attribute [local go_sem high] eqA27
def chicaneref16_Text.f (k : Nat) (a0_0 : Int) (a0_1 : ByteArray) (a0_2 : ByteArray) (a0_3 : Int) (a0_4 : ByteArray) (a0_5 : Int) (a0_6 : Bool) (a0_7 : Int) (a0_8 : Int) (a0_9 : Int) : Option (ByteArray) := (chicaneref16_Words.f k a0_0 a0_1 a0_2 a0_3 a0_4 a0_5 a0_6 a0_7 a0_8 a0_9).bind fun t220 => ((chicaneref15_Join.f k t220).bind fun t223 => (some t223))
theorem chicaneref16_Text.mono : ∀ a0 a1 a2 a3 a4 a5 a6 a7 a8 a9 k, LeO (chicaneref16_Text.f k a0 a1 a2 a3 a4 a5 a6 a7 a8 a9) (chicaneref16_Text.f (k + 1) a0 a1 a2 a3 a4 a5 a6 a7 a8 a9) := by
 intro a0 a1 a2 a3 a4 a5 a6 a7 a8 a9 k
 unfold chicaneref16_Text.f
 repeat' first
   | (with_reducible exact chicaneref15_Join.mono _ _)
   | (with_reducible exact chicaneref16_Words.mono _ _ _ _ _ _ _ _ _ _ _)
   | (with_reducible exact LeO.refl _)
   | (with_reducible exact LeO.none _)
   | (with_reducible refine LeO.ite ?_ ?_)
   | (with_reducible refine LeO.bind ?_ (fun _ => ?_))
   | exact chicaneref15_Join.mono _ _
   | exact chicaneref16_Words.mono _ _ _ _ _ _ _ _ _ _ _
   | exact LeO.none _
   | refine LeO.ite ?_ ?_
   | refine LeO.bind ?_ (fun _ => ?_)
def order_Text.f (k : Nat) (a0_0 : Int) (a0_1 : ByteArray) (a0_2 : ByteArray) (a0_3 : Int) (a0_4 : ByteArray) (a0_5 : Int) (a0_6 : Bool) (a0_7 : Int) (a0_8 : Int) (a0_9 : Int) : Option (ByteArray) := (order_Words.f k a0_0 a0_1 a0_2 a0_3 a0_4 a0_5 a0_6 a0_7 a0_8 a0_9).bind fun t225 => ((words_Join.f t225).bind fun t228 => (some t228))
theorem order_Text.mono : ∀ a0 a1 a2 a3 a4 a5 a6 a7 a8 a9 k, LeO (order_Text.f k a0 a1 a2 a3 a4 a5 a6 a7 a8 a9) (order_Text.f (k + 1) a0 a1 a2 a3 a4 a5 a6 a7 a8 a9) := by
 intro a0 a1 a2 a3 a4 a5 a6 a7 a8 a9 k
 unfold order_Text.f
 repeat' first
   | (with_reducible exact order_Words.mono _ _ _ _ _ _ _ _ _ _ _)
   | (with_reducible exact LeO.refl _)
   | (with_reducible exact LeO.none _)
   | (with_reducible refine LeO.ite ?_ ?_)
   | (with_reducible refine LeO.bind ?_ (fun _ => ?_))
   | exact order_Words.mono _ _ _ _ _ _ _ _ _ _ _
   | exact LeO.none _
   | refine LeO.ite ?_ ?_
   | refine LeO.bind ?_ (fun _ => ?_)
set_option maxHeartbeats 8000000 in
set_option maxRecDepth 100000 in
theorem order_Text.calls (k : Nat) (a0_0 : Int) (a0_1 : ByteArray) (a0_2 : ByteArray) (a0_3 : Int) (a0_4 : ByteArray) (a0_5 : Int) (a0_6 : Bool) (a0_7 : Int) (a0_8 : Int) (a0_9 : Int) (r : ByteArray) (w : World) (hT : Aside0 (Ext.Tab w)) (h : order_Text.f k a0_0 a0_1 a0_2 a0_3 a0_4 a0_5 a0_6 a0_7 a0_8 a0_9 = some r) :
  Calls Tryz.prog 14 #[.agg #[.int .i64 a0_0, .string a0_1, .string a0_2, .int .i64 a0_3, .string a0_4, .int .i64 a0_5, .bool a0_6, .int .i64 a0_7, .int .i64 a0_8, .int .i64 a0_9]] w fun e w' => e = .returned (.string r) ∧ Below w.heap.size w w' := by
 have hu27 := Tryz.underlying27
 have HB := Aside0.mk (Below.refl w.heap.size w)
 have H : ((order_Words.f k a0_0 a0_1 a0_2 a0_3 a0_4 a0_5 a0_6 a0_7 a0_8 a0_9).bind fun t225 => ((words_Join.f t225).bind fun t228 => (some t228))) = some r := h
 clear h
 replace H := Option.bind_eq_some_iff.mp H
 obtain ⟨t225, A20, H⟩ := H
 replace H : ((words_Join.f t225).bind fun t228 => (some t228)) = some r := H
 have A2 := Aside0.mk A20
 clear A20
 replace H := Option.bind_eq_some_iff.mp H
 obtain ⟨t228, A30, H⟩ := H
 replace H : (some t228) = some r := H
 have A3 := Aside0.mk A30
 clear A30
 obtain rfl := Option.some.inj H
 go_enter Tryz.func14, Tryz.ntmps14
 go_wp2_with (first | ((with_reducible refine gate_dst (N := 1) rfl ?_); refine box_event ?hg (N := 1) ?hd (cs := #[.int .i64 a0_0, .string a0_1, .string a0_2, .int .i64 a0_3, .string a0_4, .int .i64 a0_5, .bool a0_6, .int .i64 a0_7, .int .i64 a0_8, .int .i64 a0_9]) (t := 27) ?hr ?_; (case hd => rfl); (case hg => rfl); (case hr => first | (go_simp; done) | (go_simp; rfl)); intro gb224 hg w4 hbox hb; have n0_ := Aside0.mk (below_step (by repeat (first | (with_reducible first | exact HB.out | apply below_alloc | apply pw_below_drewN | apply below_drew1) | exact HB.out)) hb); have n1_ := Aside0.mk (hbox); have n2_ := Aside0.mk ((by rw [hg]; exact (below_size (by repeat (first | (with_reducible first | exact HB.out | apply below_alloc | apply pw_below_drewN | apply below_drew1) | exact HB.out))) : w.heap.size ≤ gb224)); have n3_ := Aside0.mk ((by rw [hg]; exact (below_size (by repeat (first | (with_reducible first | exact HB.out | apply below_alloc | apply pw_below_drewN | apply below_drew1) | exact HB.out))) : w.heap.size ≤ gb224)); clear HB; have HB := n0_; have BK224 := n1_; have GW224 := n2_; have GE224 := n3_; clear n0_ n1_ n2_ n3_; clear hb hbox hg; have hcz5_0 : w4.cell? ⟨gb224, 0, none⟩ = some (.int .i64 a0_0) := (blk_cell BK224.out 0).trans rfl; have hcz5_1 : w4.cell? ⟨gb224, 1, none⟩ = some (.string a0_1) := (blk_cell BK224.out 1).trans rfl; have hcz5_2 : w4.cell? ⟨gb224, 2, none⟩ = some (.string a0_2) := (blk_cell BK224.out 2).trans rfl; have hcz5_3 : w4.cell? ⟨gb224, 3, none⟩ = some (.int .i64 a0_3) := (blk_cell BK224.out 3).trans rfl; have hcz5_4 : w4.cell? ⟨gb224, 4, none⟩ = some (.string a0_4) := (blk_cell BK224.out 4).trans rfl; have hcz5_5 : w4.cell? ⟨gb224, 5, none⟩ = some (.int .i64 a0_5) := (blk_cell BK224.out 5).trans rfl; have hcz5_6 : w4.cell? ⟨gb224, 6, none⟩ = some (.bool a0_6) := (blk_cell BK224.out 6).trans rfl; have hcz5_7 : w4.cell? ⟨gb224, 7, none⟩ = some (.int .i64 a0_7) := (blk_cell BK224.out 7).trans rfl; have hcz5_8 : w4.cell? ⟨gb224, 8, none⟩ = some (.int .i64 a0_8) := (blk_cell BK224.out 8).trans rfl; have hcz5_9 : w4.cell? ⟨gb224, 9, none⟩ = some (.int .i64 a0_9) := (blk_cell BK224.out 9).trans rfl; have hfz5_0 := blk_frozen BK224.out 0; have hfz5_1 := blk_frozen BK224.out 1; have hfz5_2 := blk_frozen BK224.out 2; have hfz5_3 := blk_frozen BK224.out 3; have hfz5_4 := blk_frozen BK224.out 4; have hfz5_5 := blk_frozen BK224.out 5; have hfz5_6 := blk_frozen BK224.out 6; have hfz5_7 := blk_frozen BK224.out 7; have hfz5_8 := blk_frozen BK224.out 8; have hfz5_9 := blk_frozen BK224.out 9) | ((with_reducible refine gate_callee (f := 12) rfl ?_); refine goesL_ (some 4) rfl rfl Tryz.func12 (by kernel_rfl) rfl #[.agg #[.int .i64 a0_0, .string a0_1, .string a0_2, .int .i64 a0_3, .string a0_4, .int .i64 a0_5, .bool a0_6, .int .i64 a0_7, .int .i64 a0_8, .int .i64 a0_9]] rfl (by (try simp only [List.map_toArray, List.map_cons, List.map_nil]); first | done | rfl | (simp only [List.length_drop, List.length_take]; rfl)) ?_; (with_reducible refine (order_Words.calls k a0_0 a0_1 a0_2 a0_3 a0_4 a0_5 a0_6 a0_7 a0_8 a0_9 t225 _ (⟨Ext.tab_below hT.out (by repeat (first | (with_reducible first | exact HB.out | apply below_alloc | apply pw_below_drewN | apply below_drew1 | refine below_set ?_ GE224.out) | exact HB.out))⟩) A2.out).mono ?_); rintro e w6 ⟨v226, rfl, ho0, hb⟩; refine ⟨_, rfl, ?_⟩; have n0_ := Aside0.mk (Kd.R_lower ho0 (below_size (by repeat (first | (with_reducible first | exact HB.out | apply below_alloc | apply pw_below_drewN | apply below_drew1 | refine below_set ?_ GE224.out) | exact HB.out)))); have n1_ := Aside0.mk (blk_below (g := gb224) (o := .cells #[.int .i64 a0_0, .string a0_1, .string a0_2, .int .i64 a0_3, .string a0_4, .int .i64 a0_5, .bool a0_6, .int .i64 a0_7, .int .i64 a0_8, .int .i64 a0_9] 27 (0, 0)) (by (with_reducible repeat (first | refine blk_drewN ?_ _ | refine blk_drew ?_ | refine blk_alloc ?_ _)); exact BK224.out) hb); have n2_ := Aside0.mk (below_step (by repeat (first | (with_reducible first | exact HB.out | apply below_alloc | apply pw_below_drewN | apply below_drew1 | refine below_set ?_ GE224.out) | exact HB.out)) hb); clear BK224; clear HB; have HO227 := n0_; have BK224 := n1_; have HB := n2_; clear n0_ n1_ n2_; (try clear hb); (try clear hb2); (try clear hk); (try clear hi); (try clear ho0); obtain ⟨Ao7, co7, eo7⟩ := Kd.R_slice HO227.out; subst eo7) | ((with_reducible refine gate_callee (f := 41) rfl ?_); refine goesL_ (some 5) rfl rfl Tryz.func41 (by kernel_rfl) rfl #[.slice Ao7 t225.length co7] rfl (by (try simp only [List.map_toArray, List.map_cons, List.map_nil]); first | done | rfl | (simp only [List.length_drop, List.length_take]; rfl)) ?_; (with_reducible refine (words_Join.calls _ _ t225 t228 _ ?side1 ?side2 A3.out).mono ?_); (case side1 => repeat (first | exact (Kd.R_reads' HO227.out).2.2 | (with_reducible refine Kd.C_alloc ?_ _) | (with_reducible refine Kd.C_drewN ?_ _) | (with_reducible refine Kd.C_drew ?_))); (case side2 => exact (Kd.R_reads' HO227.out).2.1); rintro e w8 ⟨rfl, hb⟩; refine ⟨_, rfl, ?_⟩; have n0_ := Aside0.mk (Kd.R_below (by (with_reducible repeat (first | apply Kd.R_alloc | apply Kd.R_drewN | apply Kd.R_drew)); exact HO227.out) hb); have n1_ := Aside0.mk (blk_below (g := gb224) (o := .cells #[.int .i64 a0_0, .string a0_1, .string a0_2, .int .i64 a0_3, .string a0_4, .int .i64 a0_5, .bool a0_6, .int .i64 a0_7, .int .i64 a0_8, .int .i64 a0_9] 27 (0, 0)) (by (with_reducible repeat (first | refine blk_drewN ?_ _ | refine blk_drew ?_ | refine blk_alloc ?_ _)); exact BK224.out) hb); have n2_ := Aside0.mk (below_step (by repeat (first | (with_reducible first | exact HB.out | apply below_alloc | apply pw_below_drewN | apply below_drew1 | refine below_set ?_ GE224.out) | exact HB.out)) hb); clear HO227; clear BK224; clear HB; have HO227 := n0_; have BK224 := n1_; have HB := n2_; clear n0_ n1_ n2_; (try clear hb); (try clear hb2); (try clear hk); (try clear hi)))
 go_ret
 exact ⟨by first | rfl | (simp [errW_none, errW_some] <;> rfl) | (simp [*, errW_none, errW_some] <;> rfl), by repeat (first | (with_reducible first | exact HB.out | apply below_alloc | apply pw_below_drewN | apply below_drew1 | refine below_set ?_ GE224.out) | exact HB.out)⟩
def order_Parse.f (a0 : ByteArray) : Option (Int × ByteArray × ByteArray × Int × ByteArray × Int × Bool × Int × Int × Int × Int) := (words_Split.f a0).bind fun bt230 => (if bt230.2.2 = 0 then ((order_FromWords.f bt230.1).bind fun bt235 => (some (bt235.1, bt235.2.1, bt235.2.2.1, bt235.2.2.2.1, bt235.2.2.2.2.1, bt235.2.2.2.2.2.1, bt235.2.2.2.2.2.2.1, bt235.2.2.2.2.2.2.2.1, bt235.2.2.2.2.2.2.2.2.1, bt235.2.2.2.2.2.2.2.2.2.1, bt235.2.2.2.2.2.2.2.2.2.2))) else (some (0, (⟨#[]⟩ : ByteArray), (⟨#[]⟩ : ByteArray), 0, (⟨#[]⟩ : ByteArray), 0, false, 0, 0, 0, bt230.2.2)))
set_option maxHeartbeats 8000000 in
set_option maxRecDepth 100000 in
theorem order_Parse.calls (a0 : ByteArray) (r1 : Int) (r2 : ByteArray) (r3 : ByteArray) (r4 : Int) (r5 : ByteArray) (r6 : Int) (r7 : Bool) (r8 : Int) (r9 : Int) (r10 : Int) (r11 : Int) (w : World) (hT : Aside0 (Ext.Tab w)) (h : order_Parse.f a0 = some (r1, r2, r3, r4, r5, r6, r7, r8, r9, r10, r11)) :
  Calls Tryz.prog 17 #[.string a0] w fun e w' => e = .returned (.tuple #[.agg #[.int .i64 r1, .string r2, .string r3, .int .i64 r4, .string r5, .int .i64 r6, .bool r7, .int .i64 r8, .int .i64 r9, .int .i64 r10], .int .i64 r11]) ∧ Below w.heap.size w w' := by
 have hu27 := Tryz.underlying27
 have HB := Aside0.mk (Below.refl w.heap.size w)
 have H : ((words_Split.f a0).bind fun bt230 => (if bt230.2.2 = 0 then ((order_FromWords.f bt230.1).bind fun bt235 => (some (bt235.1, bt235.2.1, bt235.2.2.1, bt235.2.2.2.1, bt235.2.2.2.2.1, bt235.2.2.2.2.2.1, bt235.2.2.2.2.2.2.1, bt235.2.2.2.2.2.2.2.1, bt235.2.2.2.2.2.2.2.2.1, bt235.2.2.2.2.2.2.2.2.2.1, bt235.2.2.2.2.2.2.2.2.2.2))) else (some (0, (⟨#[]⟩ : ByteArray), (⟨#[]⟩ : ByteArray), 0, (⟨#[]⟩ : ByteArray), 0, false, 0, 0, 0, bt230.2.2)))) = some (r1, r2, r3, r4, r5, r6, r7, r8, r9, r10, r11) := h
 clear h
 replace H := Option.bind_eq_some_iff.mp H
 obtain ⟨⟨t230, t231, t232⟩, A20, H⟩ := H
 replace H : (if t232 = 0 then ((order_FromWords.f t230).bind fun bt235 => (some (bt235.1, bt235.2.1, bt235.2.2.1, bt235.2.2.2.1, bt235.2.2.2.2.1, bt235.2.2.2.2.2.1, bt235.2.2.2.2.2.2.1, bt235.2.2.2.2.2.2.2.1, bt235.2.2.2.2.2.2.2.2.1, bt235.2.2.2.2.2.2.2.2.2.1, bt235.2.2.2.2.2.2.2.2.2.2))) else (some (0, (⟨#[]⟩ : ByteArray), (⟨#[]⟩ : ByteArray), 0, (⟨#[]⟩ : ByteArray), 0, false, 0, 0, 0, t232))) = some (r1, r2, r3, r4, r5, r6, r7, r8, r9, r10, r11) := H
 have A2 := Aside0.mk A20
 clear A20
 by_cases c3 : t232 = 0
 ·rw [if_pos c3] at H
  have c3b0 : (t232 == 0) = true := beq_iff_eq.mpr c3
  have c3b1 : (t232 != 0) = false := bne_eq_false_iff_eq.mpr c3
  clear c3
  replace H := Option.bind_eq_some_iff.mp H
  obtain ⟨⟨t235, t236, t237, t238, t239, t240, t241, t242, t243, t244, t245⟩, A40, H⟩ := H
  replace H : (some (t235, t236, t237, t238, t239, t240, t241, t242, t243, t244, t245)) = some (r1, r2, r3, r4, r5, r6, r7, r8, r9, r10, r11) := H
  have A4 := Aside0.mk A40
  clear A40
  simp only [Option.some.injEq, Prod.mk.injEq] at H
  obtain ⟨rfl, rfl, rfl, rfl, rfl, rfl, rfl, rfl, rfl, rfl, rfl⟩ := H
  go_enter Tryz.func17, Tryz.ntmps17
  go_wp2_with (first | ((with_reducible refine gate_dst (N := 2) rfl ?_); refine box_event ?hg (N := 2) ?hd (cs := #[.int .i64 0, .string (⟨#[]⟩ : ByteArray), .string (⟨#[]⟩ : ByteArray), .int .i64 0, .string (⟨#[]⟩ : ByteArray), .int .i64 0, .bool false, .int .i64 0, .int .i64 0, .int .i64 0]) (t := 27) ?hr ?_; (case hd => rfl); (case hg => rfl); (case hr => first | (go_simp; done) | (go_simp; rfl)); intro gb229 hg w5 hbox hb; have n0_ := Aside0.mk (below_step (by repeat (first | (with_reducible first | exact HB.out | apply below_alloc | apply pw_below_drewN | apply below_drew1) | exact HB.out)) hb); have n1_ := Aside0.mk (hbox); have n2_ := Aside0.mk ((by rw [hg]; exact (below_size (by repeat (first | (with_reducible first | exact HB.out | apply below_alloc | apply pw_below_drewN | apply below_drew1) | exact HB.out))) : w.heap.size ≤ gb229)); have n3_ := Aside0.mk ((by rw [hg]; exact (below_size (by repeat (first | (with_reducible first | exact HB.out | apply below_alloc | apply pw_below_drewN | apply below_drew1) | exact HB.out))) : w.heap.size ≤ gb229)); clear HB; have HB := n0_; have BK229 := n1_; have GW229 := n2_; have GE229 := n3_; clear n0_ n1_ n2_ n3_; clear hb hbox hg) | ((with_reducible refine gate_callee (f := 44) rfl ?_); refine goesL_ (some 9) rfl rfl Tryz.func44 (by kernel_rfl) rfl #[.string a0] rfl (by (try simp only [List.map_toArray, List.map_cons, List.map_nil]); first | done | rfl | (simp only [List.length_drop, List.length_take]; rfl)) ?_; (with_reducible refine (words_Split.calls a0 t230 t231 t232 _ A2.out).mono ?_); rintro e w6 ⟨v233, rfl, ho0, hb⟩; refine ⟨_, rfl, ?_⟩; have n0_ := Aside0.mk (Kd.R_lower ho0 (below_size (by repeat (first | (with_reducible first | exact HB.out | apply below_alloc | apply pw_below_drewN | apply below_drew1 | refine below_set ?_ GE229.out) | exact HB.out)))); have n1_ := Aside0.mk (blk_below (g := gb229) (o := .cells #[.int .i64 0, .string (⟨#[]⟩ : ByteArray), .string (⟨#[]⟩ : ByteArray), .int .i64 0, .string (⟨#[]⟩ : ByteArray), .int .i64 0, .bool false, .int .i64 0, .int .i64 0, .int .i64 0] 27 (0, 0)) (by (with_reducible repeat (first | refine blk_drewN ?_ _ | refine blk_drew ?_ | refine blk_alloc ?_ _)); exact BK229.out) hb); have n2_ := Aside0.mk (below_step (by repeat (first | (with_reducible first | exact HB.out | apply below_alloc | apply pw_below_drewN | apply below_drew1 | refine below_set ?_ GE229.out) | exact HB.out)) hb); clear BK229; clear HB; have HO234 := n0_; have BK229 := n1_; have HB := n2_; clear n0_ n1_ n2_; (try clear hb); (try clear hb2); (try clear hk); (try clear hi); (try clear ho0); obtain ⟨Ao7, co7, eo7⟩ := Kd.R_slice HO234.out; subst eo7) | ((with_reducible refine gate_callee (f := 9) rfl ?_); refine goesL_ (some 18) rfl rfl Tryz.func9 (by kernel_rfl) rfl #[.slice Ao7 t230.length co7] rfl (by (try simp only [List.map_toArray, List.map_cons, List.map_nil]); first | done | rfl | (simp only [List.length_drop, List.length_take]; rfl)) ?_; (with_reducible refine (order_FromWords.calls _ _ t230 t235 t236 t237 t238 t239 t240 t241 t242 t243 t244 t245 _ ?side1 ?side2 (⟨Ext.tab_below hT.out (by repeat (first | (with_reducible first | exact HB.out | apply below_alloc | apply pw_below_drewN | apply below_drew1 | refine below_set ?_ GE229.out) | exact HB.out))⟩) A4.out).mono ?_); (case side1 => repeat (first | exact (Kd.R_reads' HO234.out).2.2 | (with_reducible refine Kd.C_alloc ?_ _) | (with_reducible refine Kd.C_drewN ?_ _) | (with_reducible refine Kd.C_drew ?_))); (case side2 => exact (Kd.R_reads' HO234.out).2.1); rintro e w8 ⟨rfl, hb⟩; refine ⟨_, rfl, ?_⟩; have n0_ := Aside0.mk (Kd.R_below (by (with_reducible repeat (first | apply Kd.R_alloc | apply Kd.R_drewN | apply Kd.R_drew)); exact HO234.out) hb); have n1_ := Aside0.mk (blk_below (g := gb229) (o := .cells #[.int .i64 0, .string (⟨#[]⟩ : ByteArray), .string (⟨#[]⟩ : ByteArray), .int .i64 0, .string (⟨#[]⟩ : ByteArray), .int .i64 0, .bool false, .int .i64 0, .int .i64 0, .int .i64 0] 27 (0, 0)) (by (with_reducible repeat (first | refine blk_drewN ?_ _ | refine blk_drew ?_ | refine blk_alloc ?_ _)); exact BK229.out) hb); have n2_ := Aside0.mk (below_step (by repeat (first | (with_reducible first | exact HB.out | apply below_alloc | apply pw_below_drewN | apply below_drew1 | refine below_set ?_ GE229.out) | exact HB.out)) hb); clear HO234; clear BK229; clear HB; have HO234 := n0_; have BK229 := n1_; have HB := n2_; clear n0_ n1_ n2_; (try clear hb); (try clear hb2); (try clear hk); (try clear hi); have hcz9_0 : w8.cell? ⟨gb229, 0, none⟩ = some (.int .i64 0) := (blk_cell BK229.out 0).trans rfl; have hcz9_1 : w8.cell? ⟨gb229, 1, none⟩ = some (.string (⟨#[]⟩ : ByteArray)) := (blk_cell BK229.out 1).trans rfl; have hcz9_2 : w8.cell? ⟨gb229, 2, none⟩ = some (.string (⟨#[]⟩ : ByteArray)) := (blk_cell BK229.out 2).trans rfl; have hcz9_3 : w8.cell? ⟨gb229, 3, none⟩ = some (.int .i64 0) := (blk_cell BK229.out 3).trans rfl; have hcz9_4 : w8.cell? ⟨gb229, 4, none⟩ = some (.string (⟨#[]⟩ : ByteArray)) := (blk_cell BK229.out 4).trans rfl; have hcz9_5 : w8.cell? ⟨gb229, 5, none⟩ = some (.int .i64 0) := (blk_cell BK229.out 5).trans rfl; have hcz9_6 : w8.cell? ⟨gb229, 6, none⟩ = some (.bool false) := (blk_cell BK229.out 6).trans rfl; have hcz9_7 : w8.cell? ⟨gb229, 7, none⟩ = some (.int .i64 0) := (blk_cell BK229.out 7).trans rfl; have hcz9_8 : w8.cell? ⟨gb229, 8, none⟩ = some (.int .i64 0) := (blk_cell BK229.out 8).trans rfl; have hcz9_9 : w8.cell? ⟨gb229, 9, none⟩ = some (.int .i64 0) := (blk_cell BK229.out 9).trans rfl; have hfz9_0 := blk_frozen BK229.out 0; have hfz9_1 := blk_frozen BK229.out 1; have hfz9_2 := blk_frozen BK229.out 2; have hfz9_3 := blk_frozen BK229.out 3; have hfz9_4 := blk_frozen BK229.out 4; have hfz9_5 := blk_frozen BK229.out 5; have hfz9_6 := blk_frozen BK229.out 6; have hfz9_7 := blk_frozen BK229.out 7; have hfz9_8 := blk_frozen BK229.out 8; have hfz9_9 := blk_frozen BK229.out 9))
  refine bodyPost_ret (results_ct rfl _ _ gb229 27 #[.int .i64 t235, .string t236, .string t237, .int .i64 t238, .string t239, .int .i64 t240, .bool t241, .int .i64 t242, .int .i64 t243, .int .i64 t244] (0, 0) _ rfl (by (with_reducible repeat (first | refine blk_drewN ?_ _ | refine blk_drew ?_ | refine blk_alloc ?_ _)); refine blk_put (cs := #[.int .i64 t235, .string t236, .string t237, .int .i64 t238, .string t239, .int .i64 t240, .bool t241, .int .i64 t242, .int .i64 t243, .int .i64 0]) ?_ 9 _ rfl; (with_reducible repeat (first | refine blk_drewN ?_ _ | refine blk_drew ?_ | refine blk_alloc ?_ _)); refine blk_put (cs := #[.int .i64 t235, .string t236, .string t237, .int .i64 t238, .string t239, .int .i64 t240, .bool t241, .int .i64 t242, .int .i64 0, .int .i64 0]) ?_ 8 _ rfl; (with_reducible repeat (first | refine blk_drewN ?_ _ | refine blk_drew ?_ | refine blk_alloc ?_ _)); refine blk_put (cs := #[.int .i64 t235, .string t236, .string t237, .int .i64 t238, .string t239, .int .i64 t240, .bool t241, .int .i64 0, .int .i64 0, .int .i64 0]) ?_ 7 _ rfl; (with_reducible repeat (first | refine blk_drewN ?_ _ | refine blk_drew ?_ | refine blk_alloc ?_ _)); refine blk_put (cs := #[.int .i64 t235, .string t236, .string t237, .int .i64 t238, .string t239, .int .i64 t240, .bool false, .int .i64 0, .int .i64 0, .int .i64 0]) ?_ 6 _ rfl; (with_reducible repeat (first | refine blk_drewN ?_ _ | refine blk_drew ?_ | refine blk_alloc ?_ _)); refine blk_put (cs := #[.int .i64 t235, .string t236, .string t237, .int .i64 t238, .string t239, .int .i64 0, .bool false, .int .i64 0, .int .i64 0, .int .i64 0]) ?_ 5 _ rfl; (with_reducible repeat (first | refine blk_drewN ?_ _ | refine blk_drew ?_ | refine blk_alloc ?_ _)); refine blk_put (cs := #[.int .i64 t235, .string t236, .string t237, .int .i64 t238, .string (⟨#[]⟩ : ByteArray), .int .i64 0, .bool false, .int .i64 0, .int .i64 0, .int .i64 0]) ?_ 4 _ rfl; (with_reducible repeat (first | refine blk_drewN ?_ _ | refine blk_drew ?_ | refine blk_alloc ?_ _)); refine blk_put (cs := #[.int .i64 t235, .string t236, .string t237, .int .i64 0, .string (⟨#[]⟩ : ByteArray), .int .i64 0, .bool false, .int .i64 0, .int .i64 0, .int .i64 0]) ?_ 3 _ rfl; (with_reducible repeat (first | refine blk_drewN ?_ _ | refine blk_drew ?_ | refine blk_alloc ?_ _)); refine blk_put (cs := #[.int .i64 t235, .string t236, .string (⟨#[]⟩ : ByteArray), .int .i64 0, .string (⟨#[]⟩ : ByteArray), .int .i64 0, .bool false, .int .i64 0, .int .i64 0, .int .i64 0]) ?_ 2 _ rfl; (with_reducible repeat (first | refine blk_drewN ?_ _ | refine blk_drew ?_ | refine blk_alloc ?_ _)); refine blk_put (cs := #[.int .i64 t235, .string (⟨#[]⟩ : ByteArray), .string (⟨#[]⟩ : ByteArray), .int .i64 0, .string (⟨#[]⟩ : ByteArray), .int .i64 0, .bool false, .int .i64 0, .int .i64 0, .int .i64 0]) ?_ 1 _ rfl; (with_reducible repeat (first | refine blk_drewN ?_ _ | refine blk_drew ?_ | refine blk_alloc ?_ _)); refine blk_put (cs := #[.int .i64 0, .string (⟨#[]⟩ : ByteArray), .string (⟨#[]⟩ : ByteArray), .int .i64 0, .string (⟨#[]⟩ : ByteArray), .int .i64 0, .bool false, .int .i64 0, .int .i64 0, .int .i64 0]) ?_ 0 _ rfl; (with_reducible repeat (first | refine blk_drewN ?_ _ | refine blk_drew ?_ | refine blk_alloc ?_ _)); exact BK229.out) Tryz.underlying27 rfl (by kernel_rfl)) rfl ?_
  exact ⟨by first | rfl | (simp [errW_none, errW_some] <;> rfl) | (simp [*, errW_none, errW_some] <;> rfl), by repeat (first | (with_reducible first | exact HB.out | apply below_alloc | apply pw_below_drewN | apply below_drew1 | refine below_set ?_ GE229.out) | exact HB.out)⟩
 ·rw [if_neg c3] at H
  have c3b0 : (t232 == 0) = false := beq_eq_false_iff_ne.mpr c3
  have c3b1 : (t232 != 0) = true := bne_iff_ne.mpr c3
  simp only [Option.some.injEq, Prod.mk.injEq] at H
  obtain ⟨rfl, rfl, rfl, rfl, rfl, rfl, rfl, rfl, rfl, rfl, rfl⟩ := H
  go_enter Tryz.func17, Tryz.ntmps17
  go_wp2_with (first | ((with_reducible refine gate_dst (N := 2) rfl ?_); refine box_event ?hg (N := 2) ?hd (cs := #[.int .i64 0, .string (⟨#[]⟩ : ByteArray), .string (⟨#[]⟩ : ByteArray), .int .i64 0, .string (⟨#[]⟩ : ByteArray), .int .i64 0, .bool false, .int .i64 0, .int .i64 0, .int .i64 0]) (t := 27) ?hr ?_; (case hd => rfl); (case hg => rfl); (case hr => first | (go_simp; done) | (go_simp; rfl)); intro gb229 hg w10 hbox hb; have n0_ := Aside0.mk (below_step (by repeat (first | (with_reducible first | exact HB.out | apply below_alloc | apply pw_below_drewN | apply below_drew1) | exact HB.out)) hb); have n1_ := Aside0.mk (hbox); have n2_ := Aside0.mk ((by rw [hg]; exact (below_size (by repeat (first | (with_reducible first | exact HB.out | apply below_alloc | apply pw_below_drewN | apply below_drew1) | exact HB.out))) : w.heap.size ≤ gb229)); have n3_ := Aside0.mk ((by rw [hg]; exact (below_size (by repeat (first | (with_reducible first | exact HB.out | apply below_alloc | apply pw_below_drewN | apply below_drew1) | exact HB.out))) : w.heap.size ≤ gb229)); clear HB; have HB := n0_; have BK229 := n1_; have GW229 := n2_; have GE229 := n3_; clear n0_ n1_ n2_ n3_; clear hb hbox hg) | ((with_reducible refine gate_callee (f := 44) rfl ?_); refine goesL_ (some 9) rfl rfl Tryz.func44 (by kernel_rfl) rfl #[.string a0] rfl (by (try simp only [List.map_toArray, List.map_cons, List.map_nil]); first | done | rfl | (simp only [List.length_drop, List.length_take]; rfl)) ?_; (with_reducible refine (words_Split.calls a0 t230 t231 t232 _ A2.out).mono ?_); rintro e w11 ⟨v233, rfl, ho0, hb⟩; refine ⟨_, rfl, ?_⟩; have n0_ := Aside0.mk (Kd.R_lower ho0 (below_size (by repeat (first | (with_reducible first | exact HB.out | apply below_alloc | apply pw_below_drewN | apply below_drew1 | refine below_set ?_ GE229.out) | exact HB.out)))); have n1_ := Aside0.mk (blk_below (g := gb229) (o := .cells #[.int .i64 0, .string (⟨#[]⟩ : ByteArray), .string (⟨#[]⟩ : ByteArray), .int .i64 0, .string (⟨#[]⟩ : ByteArray), .int .i64 0, .bool false, .int .i64 0, .int .i64 0, .int .i64 0] 27 (0, 0)) (by (with_reducible repeat (first | refine blk_drewN ?_ _ | refine blk_drew ?_ | refine blk_alloc ?_ _)); exact BK229.out) hb); have n2_ := Aside0.mk (below_step (by repeat (first | (with_reducible first | exact HB.out | apply below_alloc | apply pw_below_drewN | apply below_drew1 | refine below_set ?_ GE229.out) | exact HB.out)) hb); clear BK229; clear HB; have HO234 := n0_; have BK229 := n1_; have HB := n2_; clear n0_ n1_ n2_; (try clear hb); (try clear hb2); (try clear hk); (try clear hi); (try clear ho0); have hcz12_0 : w11.cell? ⟨gb229, 0, none⟩ = some (.int .i64 0) := (blk_cell BK229.out 0).trans rfl; have hcz12_1 : w11.cell? ⟨gb229, 1, none⟩ = some (.string (⟨#[]⟩ : ByteArray)) := (blk_cell BK229.out 1).trans rfl; have hcz12_2 : w11.cell? ⟨gb229, 2, none⟩ = some (.string (⟨#[]⟩ : ByteArray)) := (blk_cell BK229.out 2).trans rfl; have hcz12_3 : w11.cell? ⟨gb229, 3, none⟩ = some (.int .i64 0) := (blk_cell BK229.out 3).trans rfl; have hcz12_4 : w11.cell? ⟨gb229, 4, none⟩ = some (.string (⟨#[]⟩ : ByteArray)) := (blk_cell BK229.out 4).trans rfl; have hcz12_5 : w11.cell? ⟨gb229, 5, none⟩ = some (.int .i64 0) := (blk_cell BK229.out 5).trans rfl; have hcz12_6 : w11.cell? ⟨gb229, 6, none⟩ = some (.bool false) := (blk_cell BK229.out 6).trans rfl; have hcz12_7 : w11.cell? ⟨gb229, 7, none⟩ = some (.int .i64 0) := (blk_cell BK229.out 7).trans rfl; have hcz12_8 : w11.cell? ⟨gb229, 8, none⟩ = some (.int .i64 0) := (blk_cell BK229.out 8).trans rfl; have hcz12_9 : w11.cell? ⟨gb229, 9, none⟩ = some (.int .i64 0) := (blk_cell BK229.out 9).trans rfl; have hfz12_0 := blk_frozen BK229.out 0; have hfz12_1 := blk_frozen BK229.out 1; have hfz12_2 := blk_frozen BK229.out 2; have hfz12_3 := blk_frozen BK229.out 3; have hfz12_4 := blk_frozen BK229.out 4; have hfz12_5 := blk_frozen BK229.out 5; have hfz12_6 := blk_frozen BK229.out 6; have hfz12_7 := blk_frozen BK229.out 7; have hfz12_8 := blk_frozen BK229.out 8; have hfz12_9 := blk_frozen BK229.out 9))
  refine bodyPost_ret (results_ct rfl _ _ gb229 27 #[.int .i64 0, .string (⟨#[]⟩ : ByteArray), .string (⟨#[]⟩ : ByteArray), .int .i64 0, .string (⟨#[]⟩ : ByteArray), .int .i64 0, .bool false, .int .i64 0, .int .i64 0, .int .i64 0] (0, 0) _ rfl (by (with_reducible repeat (first | refine blk_drewN ?_ _ | refine blk_drew ?_ | refine blk_alloc ?_ _)); refine blk_put (cs := #[.int .i64 0, .string (⟨#[]⟩ : ByteArray), .string (⟨#[]⟩ : ByteArray), .int .i64 0, .string (⟨#[]⟩ : ByteArray), .int .i64 0, .bool false, .int .i64 0, .int .i64 0, .int .i64 0]) ?_ 9 _ rfl; (with_reducible repeat (first | refine blk_drewN ?_ _ | refine blk_drew ?_ | refine blk_alloc ?_ _)); refine blk_put (cs := #[.int .i64 0, .string (⟨#[]⟩ : ByteArray), .string (⟨#[]⟩ : ByteArray), .int .i64 0, .string (⟨#[]⟩ : ByteArray), .int .i64 0, .bool false, .int .i64 0, .int .i64 0, .int .i64 0]) ?_ 8 _ rfl; (with_reducible repeat (first | refine blk_drewN ?_ _ | refine blk_drew ?_ | refine blk_alloc ?_ _)); refine blk_put (cs := #[.int .i64 0, .string (⟨#[]⟩ : ByteArray), .string (⟨#[]⟩ : ByteArray), .int .i64 0, .string (⟨#[]⟩ : ByteArray), .int .i64 0, .bool false, .int .i64 0, .int .i64 0, .int .i64 0]) ?_ 7 _ rfl; (with_reducible repeat (first | refine blk_drewN ?_ _ | refine blk_drew ?_ | refine blk_alloc ?_ _)); refine blk_put (cs := #[.int .i64 0, .string (⟨#[]⟩ : ByteArray), .string (⟨#[]⟩ : ByteArray), .int .i64 0, .string (⟨#[]⟩ : ByteArray), .int .i64 0, .bool false, .int .i64 0, .int .i64 0, .int .i64 0]) ?_ 6 _ rfl; (with_reducible repeat (first | refine blk_drewN ?_ _ | refine blk_drew ?_ | refine blk_alloc ?_ _)); refine blk_put (cs := #[.int .i64 0, .string (⟨#[]⟩ : ByteArray), .string (⟨#[]⟩ : ByteArray), .int .i64 0, .string (⟨#[]⟩ : ByteArray), .int .i64 0, .bool false, .int .i64 0, .int .i64 0, .int .i64 0]) ?_ 5 _ rfl; (with_reducible repeat (first | refine blk_drewN ?_ _ | refine blk_drew ?_ | refine blk_alloc ?_ _)); refine blk_put (cs := #[.int .i64 0, .string (⟨#[]⟩ : ByteArray), .string (⟨#[]⟩ : ByteArray), .int .i64 0, .string (⟨#[]⟩ : ByteArray), .int .i64 0, .bool false, .int .i64 0, .int .i64 0, .int .i64 0]) ?_ 4 _ rfl; (with_reducible repeat (first | refine blk_drewN ?_ _ | refine blk_drew ?_ | refine blk_alloc ?_ _)); refine blk_put (cs := #[.int .i64 0, .string (⟨#[]⟩ : ByteArray), .string (⟨#[]⟩ : ByteArray), .int .i64 0, .string (⟨#[]⟩ : ByteArray), .int .i64 0, .bool false, .int .i64 0, .int .i64 0, .int .i64 0]) ?_ 3 _ rfl; (with_reducible repeat (first | refine blk_drewN ?_ _ | refine blk_drew ?_ | refine blk_alloc ?_ _)); refine blk_put (cs := #[.int .i64 0, .string (⟨#[]⟩ : ByteArray), .string (⟨#[]⟩ : ByteArray), .int .i64 0, .string (⟨#[]⟩ : ByteArray), .int .i64 0, .bool false, .int .i64 0, .int .i64 0, .int .i64 0]) ?_ 2 _ rfl; (with_reducible repeat (first | refine blk_drewN ?_ _ | refine blk_drew ?_ | refine blk_alloc ?_ _)); refine blk_put (cs := #[.int .i64 0, .string (⟨#[]⟩ : ByteArray), .string (⟨#[]⟩ : ByteArray), .int .i64 0, .string (⟨#[]⟩ : ByteArray), .int .i64 0, .bool false, .int .i64 0, .int .i64 0, .int .i64 0]) ?_ 1 _ rfl; (with_reducible repeat (first | refine blk_drewN ?_ _ | refine blk_drew ?_ | refine blk_alloc ?_ _)); refine blk_put (cs := #[.int .i64 0, .string (⟨#[]⟩ : ByteArray), .string (⟨#[]⟩ : ByteArray), .int .i64 0, .string (⟨#[]⟩ : ByteArray), .int .i64 0, .bool false, .int .i64 0, .int .i64 0, .int .i64 0]) ?_ 0 _ rfl; (with_reducible repeat (first | refine blk_drewN ?_ _ | refine blk_drew ?_ | refine blk_alloc ?_ _)); exact BK229.out) Tryz.underlying27 rfl (by kernel_rfl)) rfl ?_
  exact ⟨by first | rfl | (simp [errW_none, errW_some] <;> rfl) | (simp [*, errW_none, errW_some] <;> rfl), by repeat (first | (with_reducible first | exact HB.out | apply below_alloc | apply pw_below_drewN | apply below_drew1 | refine below_set ?_ GE229.out) | exact HB.out)⟩
def chicanelaw16_alive.f (k : Nat)  : Option (Bool) := (order_Parse.f (⟨#[116, 111, 120, 105, 99, 32, 97, 100, 100, 32, 112, 32, 108, 97, 103, 32, 108, 97, 116, 101, 110, 99, 121, 32, 117, 112, 32, 49, 48, 48, 32, 53, 32, 49]⟩ : ByteArray)).bind fun bt246 => ((order_Parse.f (⟨#[108, 105, 115, 116, 32, 97, 108, 108]⟩ : ByteArray)).bind fun bt258 => ((order_Parse.f (⟨#[102, 108, 121]⟩ : ByteArray)).bind fun bt270 => ((order_Parse.f (⟨#[35, 32, 110, 111, 116, 104, 105, 110, 103]⟩ : ByteArray)).bind fun bt282 => (if bt246.2.2.2.2.2.2.2.2.2.2 = 0 then (if bt246.1 = 5 then (if bt246.2.1.toList = ([112] : List UInt8) then (if bt246.2.2.2.2.2.2.2.2.1 = 5 then ((order_Text.f k bt246.1 bt246.2.1 bt246.2.2.1 bt246.2.2.2.1 bt246.2.2.2.2.1 bt246.2.2.2.2.2.1 bt246.2.2.2.2.2.2.1 bt246.2.2.2.2.2.2.2.1 bt246.2.2.2.2.2.2.2.2.1 bt246.2.2.2.2.2.2.2.2.2.1).bind fun t294 => (if t294.toList = ([116, 111, 120, 105, 99, 32, 97, 100, 100, 32, 112, 32, 108, 97, 103, 32, 108, 97, 116, 101, 110, 99, 121, 32, 117, 112, 32, 49, 48, 48, 32, 53, 32, 49] : List UInt8) then (if bt258.2.2.2.2.2.2.2.2.2.2 = 161 then (if bt270.2.2.2.2.2.2.2.2.2.2 = 162 then (if bt282.2.2.2.2.2.2.2.2.2.2 = 160 then ((order_Changes.f 3).bind fun t295 => (if t295 = true then ((order_Verbs.f).bind fun t296 => (some ((t296.length : Int) == 10))) else (some false))) else (some false)) else (some false)) else (some false)) else (some false))) else (some false)) else (some false)) else (some false)) else (some false)))))
theorem chicanelaw16_alive.mono : ∀ k, LeO (chicanelaw16_alive.f k ) (chicanelaw16_alive.f (k + 1) ) := by
 intro  k
 unfold chicanelaw16_alive.f
 repeat' first
   | (with_reducible exact order_Text.mono _ _ _ _ _ _ _ _ _ _ _)
   | (with_reducible exact LeO.refl _)
   | (with_reducible exact LeO.none _)
   | (with_reducible refine LeO.ite ?_ ?_)
   | (with_reducible refine LeO.bind ?_ (fun _ => ?_))
   | exact order_Text.mono _ _ _ _ _ _ _ _ _ _ _
   | exact LeO.none _
   | refine LeO.ite ?_ ?_
   | refine LeO.bind ?_ (fun _ => ?_)
set_option maxHeartbeats 8000000 in
set_option maxRecDepth 100000 in
theorem chicanelaw16_alive.calls_t (k : Nat)  (r : Bool) (w : World) (hT : Aside0 (Ext.Tab w)) (hr : r = true) (h : chicanelaw16_alive.f k  = some r) :
  Calls Tryz.prog 8 #[] w fun e w' => e = .returned (.bool r) ∧ Below w.heap.size w w' := by
 have hu27 := Tryz.underlying27
 have HB := Aside0.mk (Below.refl w.heap.size w)
 have H : ((order_Parse.f (⟨#[116, 111, 120, 105, 99, 32, 97, 100, 100, 32, 112, 32, 108, 97, 103, 32, 108, 97, 116, 101, 110, 99, 121, 32, 117, 112, 32, 49, 48, 48, 32, 53, 32, 49]⟩ : ByteArray)).bind fun bt246 => ((order_Parse.f (⟨#[108, 105, 115, 116, 32, 97, 108, 108]⟩ : ByteArray)).bind fun bt258 => ((order_Parse.f (⟨#[102, 108, 121]⟩ : ByteArray)).bind fun bt270 => ((order_Parse.f (⟨#[35, 32, 110, 111, 116, 104, 105, 110, 103]⟩ : ByteArray)).bind fun bt282 => (if bt246.2.2.2.2.2.2.2.2.2.2 = 0 then (if bt246.1 = 5 then (if bt246.2.1.toList = ([112] : List UInt8) then (if bt246.2.2.2.2.2.2.2.2.1 = 5 then ((order_Text.f k bt246.1 bt246.2.1 bt246.2.2.1 bt246.2.2.2.1 bt246.2.2.2.2.1 bt246.2.2.2.2.2.1 bt246.2.2.2.2.2.2.1 bt246.2.2.2.2.2.2.2.1 bt246.2.2.2.2.2.2.2.2.1 bt246.2.2.2.2.2.2.2.2.2.1).bind fun t294 => (if t294.toList = ([116, 111, 120, 105, 99, 32, 97, 100, 100, 32, 112, 32, 108, 97, 103, 32, 108, 97, 116, 101, 110, 99, 121, 32, 117, 112, 32, 49, 48, 48, 32, 53, 32, 49] : List UInt8) then (if bt258.2.2.2.2.2.2.2.2.2.2 = 161 then (if bt270.2.2.2.2.2.2.2.2.2.2 = 162 then (if bt282.2.2.2.2.2.2.2.2.2.2 = 160 then ((order_Changes.f 3).bind fun t295 => (if t295 = true then ((order_Verbs.f).bind fun t296 => (some ((t296.length : Int) == 10))) else (some false))) else (some false)) else (some false)) else (some false)) else (some false))) else (some false)) else (some false)) else (some false)) else (some false)))))) = some r := h
 clear h
 replace H := Option.bind_eq_some_iff.mp H
 obtain ⟨⟨t246, t247, t248, t249, t250, t251, t252, t253, t254, t255, t256⟩, A10, H⟩ := H
 replace H : ((order_Parse.f (⟨#[108, 105, 115, 116, 32, 97, 108, 108]⟩ : ByteArray)).bind fun bt258 => ((order_Parse.f (⟨#[102, 108, 121]⟩ : ByteArray)).bind fun bt270 => ((order_Parse.f (⟨#[35, 32, 110, 111, 116, 104, 105, 110, 103]⟩ : ByteArray)).bind fun bt282 => (if t256 = 0 then (if t246 = 5 then (if t247.toList = ([112] : List UInt8) then (if t254 = 5 then ((order_Text.f k t246 t247 t248 t249 t250 t251 t252 t253 t254 t255).bind fun t294 => (if t294.toList = ([116, 111, 120, 105, 99, 32, 97, 100, 100, 32, 112, 32, 108, 97, 103, 32, 108, 97, 116, 101, 110, 99, 121, 32, 117, 112, 32, 49, 48, 48, 32, 53, 32, 49] : List UInt8) then (if bt258.2.2.2.2.2.2.2.2.2.2 = 161 then (if bt270.2.2.2.2.2.2.2.2.2.2 = 162 then (if bt282.2.2.2.2.2.2.2.2.2.2 = 160 then ((order_Changes.f 3).bind fun t295 => (if t295 = true then ((order_Verbs.f).bind fun t296 => (some ((t296.length : Int) == 10))) else (some false))) else (some false)) else (some false)) else (some false)) else (some false))) else (some false)) else (some false)) else (some false)) else (some false))))) = some r := H
 have A1 := Aside0.mk A10
 clear A10
 replace H := Option.bind_eq_some_iff.mp H
 obtain ⟨⟨t258, t259, t260, t261, t262, t263, t264, t265, t266, t267, t268⟩, A20, H⟩ := H
 replace H : ((order_Parse.f (⟨#[102, 108, 121]⟩ : ByteArray)).bind fun bt270 => ((order_Parse.f (⟨#[35, 32, 110, 111, 116, 104, 105, 110, 103]⟩ : ByteArray)).bind fun bt282 => (if t256 = 0 then (if t246 = 5 then (if t247.toList = ([112] : List UInt8) then (if t254 = 5 then ((order_Text.f k t246 t247 t248 t249 t250 t251 t252 t253 t254 t255).bind fun t294 => (if t294.toList = ([116, 111, 120, 105, 99, 32, 97, 100, 100, 32, 112, 32, 108, 97, 103, 32, 108, 97, 116, 101, 110, 99, 121, 32, 117, 112, 32, 49, 48, 48, 32, 53, 32, 49] : List UInt8) then (if t268 = 161 then (if bt270.2.2.2.2.2.2.2.2.2.2 = 162 then (if bt282.2.2.2.2.2.2.2.2.2.2 = 160 then ((order_Changes.f 3).bind fun t295 => (if t295 = true then ((order_Verbs.f).bind fun t296 => (some ((t296.length : Int) == 10))) else (some false))) else (some false)) else (some false)) else (some false)) else (some false))) else (some false)) else (some false)) else (some false)) else (some false)))) = some r := H
 have A2 := Aside0.mk A20
 clear A20
 replace H := Option.bind_eq_some_iff.mp H
 obtain ⟨⟨t270, t271, t272, t273, t274, t275, t276, t277, t278, t279, t280⟩, A30, H⟩ := H
 replace H : ((order_Parse.f (⟨#[35, 32, 110, 111, 116, 104, 105, 110, 103]⟩ : ByteArray)).bind fun bt282 => (if t256 = 0 then (if t246 = 5 then (if t247.toList = ([112] : List UInt8) then (if t254 = 5 then ((order_Text.f k t246 t247 t248 t249 t250 t251 t252 t253 t254 t255).bind fun t294 => (if t294.toList = ([116, 111, 120, 105, 99, 32, 97, 100, 100, 32, 112, 32, 108, 97, 103, 32, 108, 97, 116, 101, 110, 99, 121, 32, 117, 112, 32, 49, 48, 48, 32, 53, 32, 49] : List UInt8) then (if t268 = 161 then (if t280 = 162 then (if bt282.2.2.2.2.2.2.2.2.2.2 = 160 then ((order_Changes.f 3).bind fun t295 => (if t295 = true then ((order_Verbs.f).bind fun t296 => (some ((t296.length : Int) == 10))) else (some false))) else (some false)) else (some false)) else (some false)) else (some false))) else (some false)) else (some false)) else (some false)) else (some false))) = some r := H
 have A3 := Aside0.mk A30
 clear A30
 replace H := Option.bind_eq_some_iff.mp H
 obtain ⟨⟨t282, t283, t284, t285, t286, t287, t288, t289, t290, t291, t292⟩, A40, H⟩ := H
 replace H : (if t256 = 0 then (if t246 = 5 then (if t247.toList = ([112] : List UInt8) then (if t254 = 5 then ((order_Text.f k t246 t247 t248 t249 t250 t251 t252 t253 t254 t255).bind fun t294 => (if t294.toList = ([116, 111, 120, 105, 99, 32, 97, 100, 100, 32, 112, 32, 108, 97, 103, 32, 108, 97, 116, 101, 110, 99, 121, 32, 117, 112, 32, 49, 48, 48, 32, 53, 32, 49] : List UInt8) then (if t268 = 161 then (if t280 = 162 then (if t292 = 160 then ((order_Changes.f 3).bind fun t295 => (if t295 = true then ((order_Verbs.f).bind fun t296 => (some ((t296.length : Int) == 10))) else (some false))) else (some false)) else (some false)) else (some false)) else (some false))) else (some false)) else (some false)) else (some false)) else (some false)) = some r := H
 have A4 := Aside0.mk A40
 clear A40
 by_cases c5 : t256 = 0
 ·rw [if_pos c5] at H
  have c5b0 : (t256 == 0) = true := beq_iff_eq.mpr c5
  have c5b1 : (t256 != 0) = false := bne_eq_false_iff_eq.mpr c5
  clear c5
  by_cases c6 : t246 = 5
  ·rw [if_pos c6] at H
   have c6b0 : (t246 == 5) = true := beq_iff_eq.mpr c6
   have c6b1 : (t246 != 5) = false := bne_eq_false_iff_eq.mpr c6
   clear c6
   by_cases c7 : t247.toList = ([112] : List UInt8)
   ·rw [if_pos c7] at H
    have c7b0 : (t247.toList == ([112] : List UInt8)) = true := beq_iff_eq.mpr c7
    have c7b1 : (t247.toList != ([112] : List UInt8)) = false := bne_eq_false_iff_eq.mpr c7
    clear c7
    by_cases c8 : t254 = 5
    ·rw [if_pos c8] at H
     have c8b0 : (t254 == 5) = true := beq_iff_eq.mpr c8
     have c8b1 : (t254 != 5) = false := bne_eq_false_iff_eq.mpr c8
     clear c8
     replace H := Option.bind_eq_some_iff.mp H
     obtain ⟨t294, A90, H⟩ := H
     replace H : (if t294.toList = ([116, 111, 120, 105, 99, 32, 97, 100, 100, 32, 112, 32, 108, 97, 103, 32, 108, 97, 116, 101, 110, 99, 121, 32, 117, 112, 32, 49, 48, 48, 32, 53, 32, 49] : List UInt8) then (if t268 = 161 then (if t280 = 162 then (if t292 = 160 then ((order_Changes.f 3).bind fun t295 => (if t295 = true then ((order_Verbs.f).bind fun t296 => (some ((t296.length : Int) == 10))) else (some false))) else (some false)) else (some false)) else (some false)) else (some false)) = some r := H
     have A9 := Aside0.mk A90
     clear A90
     by_cases c10 : t294.toList = ([116, 111, 120, 105, 99, 32, 97, 100, 100, 32, 112, 32, 108, 97, 103, 32, 108, 97, 116, 101, 110, 99, 121, 32, 117, 112, 32, 49, 48, 48, 32, 53, 32, 49] : List UInt8)
     ·rw [if_pos c10] at H
      have c10b0 : (t294.toList == ([116, 111, 120, 105, 99, 32, 97, 100, 100, 32, 112, 32, 108, 97, 103, 32, 108, 97, 116, 101, 110, 99, 121, 32, 117, 112, 32, 49, 48, 48, 32, 53, 32, 49] : List UInt8)) = true := beq_iff_eq.mpr c10
      have c10b1 : (t294.toList != ([116, 111, 120, 105, 99, 32, 97, 100, 100, 32, 112, 32, 108, 97, 103, 32, 108, 97, 116, 101, 110, 99, 121, 32, 117, 112, 32, 49, 48, 48, 32, 53, 32, 49] : List UInt8)) = false := bne_eq_false_iff_eq.mpr c10
      clear c10
      by_cases c11 : t268 = 161
      ·rw [if_pos c11] at H
       have c11b0 : (t268 == 161) = true := beq_iff_eq.mpr c11
       have c11b1 : (t268 != 161) = false := bne_eq_false_iff_eq.mpr c11
       clear c11
       by_cases c12 : t280 = 162
       ·rw [if_pos c12] at H
        have c12b0 : (t280 == 162) = true := beq_iff_eq.mpr c12
        have c12b1 : (t280 != 162) = false := bne_eq_false_iff_eq.mpr c12
        clear c12
        by_cases c13 : t292 = 160
        ·rw [if_pos c13] at H
         have c13b0 : (t292 == 160) = true := beq_iff_eq.mpr c13
         have c13b1 : (t292 != 160) = false := bne_eq_false_iff_eq.mpr c13
         clear c13
         replace H := Option.bind_eq_some_iff.mp H
         obtain ⟨t295, A140, H⟩ := H
         replace H : (if t295 = true then ((order_Verbs.f).bind fun t296 => (some ((t296.length : Int) == 10))) else (some false)) = some r := H
         have A14 := Aside0.mk A140
         clear A140
         by_cases c15 : t295 = true
         ·subst c15
          have H1 : ((order_Verbs.f).bind fun t296 => (some ((t296.length : Int) == 10))) = some r := by rw [if_pos rfl] at H; exact H
          clear H
          have H := H1
          clear H1
          replace H := Option.bind_eq_some_iff.mp H
          obtain ⟨t296, A160, H⟩ := H
          replace H : (some ((t296.length : Int) == 10)) = some r := H
          have A16 := Aside0.mk A160
          clear A160
          obtain rfl := Option.some.inj H
          go_enter Tryz.func8, Tryz.ntmps8
          go_wp2_with (first | ((with_reducible refine gate_callee (f := 17) rfl ?_); refine goesL_ (some 10) rfl rfl Tryz.func17 (by kernel_rfl) rfl #[.string (⟨#[116, 111, 120, 105, 99, 32, 97, 100, 100, 32, 112, 32, 108, 97, 103, 32, 108, 97, 116, 101, 110, 99, 121, 32, 117, 112, 32, 49, 48, 48, 32, 53, 32, 49]⟩ : ByteArray)] rfl (by (try simp only [List.map_toArray, List.map_cons, List.map_nil]); first | done | rfl | (simp only [List.length_drop, List.length_take]; rfl)) ?_; (with_reducible refine (order_Parse.calls (⟨#[116, 111, 120, 105, 99, 32, 97, 100, 100, 32, 112, 32, 108, 97, 103, 32, 108, 97, 116, 101, 110, 99, 121, 32, 117, 112, 32, 49, 48, 48, 32, 53, 32, 49]⟩ : ByteArray) t246 t247 t248 t249 t250 t251 t252 t253 t254 t255 t256 _ (⟨Ext.tab_below hT.out (by repeat (first | (with_reducible first | exact HB.out | apply below_alloc | apply pw_below_drewN | apply below_drew1 | refine below_set ?_ GE257.out | refine below_set ?_ GE269.out | refine below_set ?_ GE281.out | refine below_set ?_ GE293.out) | exact HB.out))⟩) A1.out).mono ?_); rintro e w17 ⟨rfl, hb⟩; refine ⟨_, rfl, ?_⟩; have n0_ := Aside0.mk (below_step (by repeat (first | (with_reducible first | exact HB.out | apply below_alloc | apply pw_below_drewN | apply below_drew1) | exact HB.out)) hb); clear HB; have HB := n0_; clear n0_; (try clear hb); (try clear hb2); (try clear hk); (try clear hi)) | ((with_reducible refine gate_dst (N := 1) rfl ?_); (try (refine gate_guard (by rfl) ?_; dsimp only)); refine box_event ?hg (N := 1) ?hd (cs := #[.int .i64 0, .string (⟨#[]⟩ : ByteArray), .string (⟨#[]⟩ : ByteArray), .int .i64 0, .string (⟨#[]⟩ : ByteArray), .int .i64 0, .bool false, .int .i64 0, .int .i64 0, .int .i64 0]) (t := 27) ?hr ?_; (case hd => rfl); (case hg => rfl); (case hr => first | (go_simp; done) | (go_simp; rfl)); intro gb257 hg w18 hbox hb; have n0_ := Aside0.mk (below_step (by repeat (first | (with_reducible first | exact HB.out | apply below_alloc | apply pw_below_drewN | apply below_drew1) | exact HB.out)) hb); have n1_ := Aside0.mk (hbox); have n2_ := Aside0.mk ((by rw [hg]; exact (below_size (by repeat (first | (with_reducible first | exact HB.out | apply below_alloc | apply pw_below_drewN | apply below_drew1) | exact HB.out))) : w.heap.size ≤ gb257)); have n3_ := Aside0.mk ((by rw [hg]; exact (below_size (by repeat (first | (with_reducible first | exact HB.out | apply below_alloc | apply pw_below_drewN | apply below_drew1) | exact HB.out))) : w.heap.size ≤ gb257)); clear HB; have HB := n0_; have BK257 := n1_; have GW257 := n2_; have GE257 := n3_; clear n0_ n1_ n2_ n3_; clear hb hbox hg; have hcz19_0 : w18.cell? ⟨gb257, 0, none⟩ = some (.int .i64 0) := (blk_cell BK257.out 0).trans rfl; have hcz19_1 : w18.cell? ⟨gb257, 1, none⟩ = some (.string (⟨#[]⟩ : ByteArray)) := (blk_cell BK257.out 1).trans rfl; have hcz19_2 : w18.cell? ⟨gb257, 2, none⟩ = some (.string (⟨#[]⟩ : ByteArray)) := (blk_cell BK257.out 2).trans rfl; have hcz19_3 : w18.cell? ⟨gb257, 3, none⟩ = some (.int .i64 0) := (blk_cell BK257.out 3).trans rfl; have hcz19_4 : w18.cell? ⟨gb257, 4, none⟩ = some (.string (⟨#[]⟩ : ByteArray)) := (blk_cell BK257.out 4).trans rfl; have hcz19_5 : w18.cell? ⟨gb257, 5, none⟩ = some (.int .i64 0) := (blk_cell BK257.out 5).trans rfl; have hcz19_6 : w18.cell? ⟨gb257, 6, none⟩ = some (.bool false) := (blk_cell BK257.out 6).trans rfl; have hcz19_7 : w18.cell? ⟨gb257, 7, none⟩ = some (.int .i64 0) := (blk_cell BK257.out 7).trans rfl; have hcz19_8 : w18.cell? ⟨gb257, 8, none⟩ = some (.int .i64 0) := (blk_cell BK257.out 8).trans rfl; have hcz19_9 : w18.cell? ⟨gb257, 9, none⟩ = some (.int .i64 0) := (blk_cell BK257.out 9).trans rfl; have hfz19_0 := blk_frozen BK257.out 0; have hfz19_1 := blk_frozen BK257.out 1; have hfz19_2 := blk_frozen BK257.out 2; have hfz19_3 := blk_frozen BK257.out 3; have hfz19_4 := blk_frozen BK257.out 4; have hfz19_5 := blk_frozen BK257.out 5; have hfz19_6 := blk_frozen BK257.out 6; have hfz19_7 := blk_frozen BK257.out 7; have hfz19_8 := blk_frozen BK257.out 8; have hfz19_9 := blk_frozen BK257.out 9) | ((with_reducible refine gate_callee (f := 17) rfl ?_); refine goesL_ (some 14) rfl rfl Tryz.func17 (by kernel_rfl) rfl #[.string (⟨#[108, 105, 115, 116, 32, 97, 108, 108]⟩ : ByteArray)] rfl (by (try simp only [List.map_toArray, List.map_cons, List.map_nil]); first | done | rfl | (simp only [List.length_drop, List.length_take]; rfl)) ?_; (with_reducible refine (order_Parse.calls (⟨#[108, 105, 115, 116, 32, 97, 108, 108]⟩ : ByteArray) t258 t259 t260 t261 t262 t263 t264 t265 t266 t267 t268 _ (⟨Ext.tab_below hT.out (by repeat (first | (with_reducible first | exact HB.out | apply below_alloc | apply pw_below_drewN | apply below_drew1 | refine below_set ?_ GE257.out | refine below_set ?_ GE269.out | refine below_set ?_ GE281.out | refine below_set ?_ GE293.out) | exact HB.out))⟩) A2.out).mono ?_); rintro e w20 ⟨rfl, hb⟩; refine ⟨_, rfl, ?_⟩; have n0_ := Aside0.mk (blk_below (g := gb257) (o := .cells #[.int .i64 t246, .string t247, .string t248, .int .i64 t249, .string t250, .int .i64 t251, .bool t252, .int .i64 t253, .int .i64 t254, .int .i64 t255] 27 (0, 0)) (by (with_reducible repeat (first | refine blk_drewN ?_ _ | refine blk_drew ?_ | refine blk_alloc ?_ _)); refine blk_put (cs := #[.int .i64 t246, .string t247, .string t248, .int .i64 t249, .string t250, .int .i64 t251, .bool t252, .int .i64 t253, .int .i64 t254, .int .i64 0]) ?_ 9 _ rfl; (with_reducible repeat (first | refine blk_drewN ?_ _ | refine blk_drew ?_ | refine blk_alloc ?_ _)); refine blk_put (cs := #[.int .i64 t246, .string t247, .string t248, .int .i64 t249, .string t250, .int .i64 t251, .bool t252, .int .i64 t253, .int .i64 0, .int .i64 0]) ?_ 8 _ rfl; (with_reducible repeat (first | refine blk_drewN ?_ _ | refine blk_drew ?_ | refine blk_alloc ?_ _)); refine blk_put (cs := #[.int .i64 t246, .string t247, .string t248, .int .i64 t249, .string t250, .int .i64 t251, .bool t252, .int .i64 0, .int .i64 0, .int .i64 0]) ?_ 7 _ rfl; (with_reducible repeat (first | refine blk_drewN ?_ _ | refine blk_drew ?_ | refine blk_alloc ?_ _)); refine blk_put (cs := #[.int .i64 t246, .string t247, .string t248, .int .i64 t249, .string t250, .int .i64 t251, .bool false, .int .i64 0, .int .i64 0, .int .i64 0]) ?_ 6 _ rfl; (with_reducible repeat (first | refine blk_drewN ?_ _ | refine blk_drew ?_ | refine blk_alloc ?_ _)); refine blk_put (cs := #[.int .i64 t246, .string t247, .string t248, .int .i64 t249, .string t250, .int .i64 0, .bool false, .int .i64 0, .int .i64 0, .int .i64 0]) ?_ 5 _ rfl; (with_reducible repeat (first | refine blk_drewN ?_ _ | refine blk_drew ?_ | refine blk_alloc ?_ _)); refine blk_put (cs := #[.int .i64 t246, .string t247, .string t248, .int .i64 t249, .string (⟨#[]⟩ : ByteArray), .int .i64 0, .bool false, .int .i64 0, .int .i64 0, .int .i64 0]) ?_ 4 _ rfl; (with_reducible repeat (first | refine blk_drewN ?_ _ | refine blk_drew ?_ | refine blk_alloc ?_ _)); refine blk_put (cs := #[.int .i64 t246, .string t247, .string t248, .int .i64 0, .string (⟨#[]⟩ : ByteArray), .int .i64 0, .bool false, .int .i64 0, .int .i64 0, .int .i64 0]) ?_ 3 _ rfl; (with_reducible repeat (first | refine blk_drewN ?_ _ | refine blk_drew ?_ | refine blk_alloc ?_ _)); refine blk_put (cs := #[.int .i64 t246, .string t247, .string (⟨#[]⟩ : ByteArray), .int .i64 0, .string (⟨#[]⟩ : ByteArray), .int .i64 0, .bool false, .int .i64 0, .int .i64 0, .int .i64 0]) ?_ 2 _ rfl; (with_reducible repeat (first | refine blk_drewN ?_ _ | refine blk_drew ?_ | refine blk_alloc ?_ _)); refine blk_put (cs := #[.int .i64 t246, .string (⟨#[]⟩ : ByteArray), .string (⟨#[]⟩ : ByteArray), .int .i64 0, .string (⟨#[]⟩ : ByteArray), .int .i64 0, .bool false, .int .i64 0, .int .i64 0, .int .i64 0]) ?_ 1 _ rfl; (with_reducible repeat (first | refine blk_drewN ?_ _ | refine blk_drew ?_ | refine blk_alloc ?_ _)); refine blk_put (cs := #[.int .i64 0, .string (⟨#[]⟩ : ByteArray), .string (⟨#[]⟩ : ByteArray), .int .i64 0, .string (⟨#[]⟩ : ByteArray), .int .i64 0, .bool false, .int .i64 0, .int .i64 0, .int .i64 0]) ?_ 0 _ rfl; (with_reducible repeat (first | refine blk_drewN ?_ _ | refine blk_drew ?_ | refine blk_alloc ?_ _)); exact BK257.out) hb); have n1_ := Aside0.mk (below_step (by repeat (first | (with_reducible first | exact HB.out | apply below_alloc | apply pw_below_drewN | apply below_drew1 | refine below_set ?_ GE257.out) | exact HB.out)) hb); clear BK257; clear HB; have BK257 := n0_; have HB := n1_; clear n0_ n1_; (try clear hb); (try clear hb2); (try clear hk); (try clear hi)) | ((with_reducible refine gate_dst (N := 3) rfl ?_); (try (refine gate_guard (by rfl) ?_; dsimp only)); refine box_event ?hg (N := 3) ?hd (cs := #[.int .i64 0, .string (⟨#[]⟩ : ByteArray), .string (⟨#[]⟩ : ByteArray), .int .i64 0, .string (⟨#[]⟩ : ByteArray), .int .i64 0, .bool false, .int .i64 0, .int .i64 0, .int .i64 0]) (t := 27) ?hr ?_; (case hd => rfl); (case hg => rfl); (case hr => first | (go_simp; done) | (go_simp; rfl)); intro gb269 hg w21 hbox hb; have n0_ := Aside0.mk (blk_below (g := gb257) (o := .cells #[.int .i64 t246, .string t247, .string t248, .int .i64 t249, .string t250, .int .i64 t251, .bool t252, .int .i64 t253, .int .i64 t254, .int .i64 t255] 27 (0, 0)) (by (with_reducible repeat (first | refine blk_drewN ?_ _ | refine blk_drew ?_ | refine blk_alloc ?_ _)); exact BK257.out) hb); have n1_ := Aside0.mk (below_step (by repeat (first | (with_reducible first | exact HB.out | apply below_alloc | apply pw_below_drewN | apply below_drew1 | refine below_set ?_ GE257.out) | exact HB.out)) hb); have n2_ := Aside0.mk (hbox); have n3_ := Aside0.mk ((by rw [hg]; exact (below_size (by repeat (first | (with_reducible first | exact HB.out | apply below_alloc | apply pw_below_drewN | apply below_drew1 | refine below_set ?_ GE257.out) | exact HB.out))) : w.heap.size ≤ gb269)); have n4_ := Aside0.mk ((by rw [hg]; exact (below_size (by repeat (first | (with_reducible first | exact HB.out | apply below_alloc | apply pw_below_drewN | apply below_drew1 | refine below_set ?_ GE257.out) | exact HB.out))) : w.heap.size ≤ gb269)); have n5_ := Aside0.mk ((by rw [hg]; exact Nat.ne_of_lt (blk_lt (g := gb257) (o := .cells #[.int .i64 t246, .string t247, .string t248, .int .i64 t249, .string t250, .int .i64 t251, .bool t252, .int .i64 t253, .int .i64 t254, .int .i64 t255] 27 (0, 0)) (by (with_reducible repeat (first | refine blk_drewN ?_ _ | refine blk_drew ?_ | refine blk_alloc ?_ _)); exact BK257.out)) : gb257 ≠ gb269)); have n6_ := Aside0.mk ((by rw [hg]; exact Nat.ne_of_gt (blk_lt (g := gb257) (o := .cells #[.int .i64 t246, .string t247, .string t248, .int .i64 t249, .string t250, .int .i64 t251, .bool t252, .int .i64 t253, .int .i64 t254, .int .i64 t255] 27 (0, 0)) (by (with_reducible repeat (first | refine blk_drewN ?_ _ | refine blk_drew ?_ | refine blk_alloc ?_ _)); exact BK257.out)) : gb269 ≠ gb257)); clear BK257; clear HB; have BK257 := n0_; have HB := n1_; have BK269 := n2_; have GW269 := n3_; have GE269 := n4_; have NB257_269 := n5_; have NB269_257 := n6_; clear n0_ n1_ n2_ n3_ n4_ n5_ n6_; clear hb hbox hg; have hnb22 := NB269_257.out; have hnc22 := NB257_269.out; have hcz23_0 : w21.cell? ⟨gb269, 0, none⟩ = some (.int .i64 0) := (blk_cell BK269.out 0).trans rfl; have hcz23_1 : w21.cell? ⟨gb269, 1, none⟩ = some (.string (⟨#[]⟩ : ByteArray)) := (blk_cell BK269.out 1).trans rfl; have hcz23_2 : w21.cell? ⟨gb269, 2, none⟩ = some (.string (⟨#[]⟩ : ByteArray)) := (blk_cell BK269.out 2).trans rfl; have hcz23_3 : w21.cell? ⟨gb269, 3, none⟩ = some (.int .i64 0) := (blk_cell BK269.out 3).trans rfl; have hcz23_4 : w21.cell? ⟨gb269, 4, none⟩ = some (.string (⟨#[]⟩ : ByteArray)) := (blk_cell BK269.out 4).trans rfl; have hcz23_5 : w21.cell? ⟨gb269, 5, none⟩ = some (.int .i64 0) := (blk_cell BK269.out 5).trans rfl; have hcz23_6 : w21.cell? ⟨gb269, 6, none⟩ = some (.bool false) := (blk_cell BK269.out 6).trans rfl; have hcz23_7 : w21.cell? ⟨gb269, 7, none⟩ = some (.int .i64 0) := (blk_cell BK269.out 7).trans rfl; have hcz23_8 : w21.cell? ⟨gb269, 8, none⟩ = some (.int .i64 0) := (blk_cell BK269.out 8).trans rfl; have hcz23_9 : w21.cell? ⟨gb269, 9, none⟩ = some (.int .i64 0) := (blk_cell BK269.out 9).trans rfl; have hfz23_0 := blk_frozen BK269.out 0; have hfz23_1 := blk_frozen BK269.out 1; have hfz23_2 := blk_frozen BK269.out 2; have hfz23_3 := blk_frozen BK269.out 3; have hfz23_4 := blk_frozen BK269.out 4; have hfz23_5 := blk_frozen BK269.out 5; have hfz23_6 := blk_frozen BK269.out 6; have hfz23_7 := blk_frozen BK269.out 7; have hfz23_8 := blk_frozen BK269.out 8; have hfz23_9 := blk_frozen BK269.out 9) | ((with_reducible refine gate_callee (f := 17) rfl ?_); refine goesL_ (some 18) rfl rfl Tryz.func17 (by kernel_rfl) rfl #[.string (⟨#[102, 108, 121]⟩ : ByteArray)] rfl (by (try simp only [List.map_toArray, List.map_cons, List.map_nil]); first | done | rfl | (simp only [List.length_drop, List.length_take]; rfl)) ?_; (with_reducible refine (order_Parse.calls (⟨#[102, 108, 121]⟩ : ByteArray) t270 t271 t272 t273 t274 t275 t276 t277 t278 t279 t280 _ (⟨Ext.tab_below hT.out (by repeat (first | (with_reducible first | exact HB.out | apply below_alloc | apply pw_below_drewN | apply below_drew1 | refine below_set ?_ GE257.out | refine below_set ?_ GE269.out | refine below_set ?_ GE281.out | refine below_set ?_ GE293.out) | exact HB.out))⟩) A3.out).mono ?_); rintro e w24 ⟨rfl, hb⟩; refine ⟨_, rfl, ?_⟩; have n0_ := Aside0.mk (blk_below (g := gb257) (o := .cells #[.int .i64 t246, .string t247, .string t248, .int .i64 t249, .string t250, .int .i64 t251, .bool t252, .int .i64 t253, .int .i64 t254, .int .i64 t255] 27 (0, 0)) (by (with_reducible repeat (first | refine blk_drewN ?_ _ | refine blk_drew ?_ | refine blk_alloc ?_ _)); refine blk_far ?_ NB257_269.out _; (with_reducible repeat (first | refine blk_drewN ?_ _ | refine blk_drew ?_ | refine blk_alloc ?_ _)); refine blk_far ?_ NB257_269.out _; (with_reducible repeat (first | refine blk_drewN ?_ _ | refine blk_drew ?_ | refine blk_alloc ?_ _)); refine blk_far ?_ NB257_269.out _; (with_reducible repeat (first | refine blk_drewN ?_ _ | refine blk_drew ?_ | refine blk_alloc ?_ _)); refine blk_far ?_ NB257_269.out _; (with_reducible repeat (first | refine blk_drewN ?_ _ | refine blk_drew ?_ | refine blk_alloc ?_ _)); refine blk_far ?_ NB257_269.out _; (with_reducible repeat (first | refine blk_drewN ?_ _ | refine blk_drew ?_ | refine blk_alloc ?_ _)); refine blk_far ?_ NB257_269.out _; (with_reducible repeat (first | refine blk_drewN ?_ _ | refine blk_drew ?_ | refine blk_alloc ?_ _)); refine blk_far ?_ NB257_269.out _; (with_reducible repeat (first | refine blk_drewN ?_ _ | refine blk_drew ?_ | refine blk_alloc ?_ _)); refine blk_far ?_ NB257_269.out _; (with_reducible repeat (first | refine blk_drewN ?_ _ | refine blk_drew ?_ | refine blk_alloc ?_ _)); refine blk_far ?_ NB257_269.out _; (with_reducible repeat (first | refine blk_drewN ?_ _ | refine blk_drew ?_ | refine blk_alloc ?_ _)); refine blk_far ?_ NB257_269.out _; (with_reducible repeat (first | refine blk_drewN ?_ _ | refine blk_drew ?_ | refine blk_alloc ?_ _)); exact BK257.out) hb); have n1_ := Aside0.mk (blk_below (g := gb269) (o := .cells #[.int .i64 t258, .string t259, .string t260, .int .i64 t261, .string t262, .int .i64 t263, .bool t264, .int .i64 t265, .int .i64 t266, .int .i64 t267] 27 (0, 0)) (by (with_reducible repeat (first | refine blk_drewN ?_ _ | refine blk_drew ?_ | refine blk_alloc ?_ _)); refine blk_put (cs := #[.int .i64 t258, .string t259, .string t260, .int .i64 t261, .string t262, .int .i64 t263, .bool t264, .int .i64 t265, .int .i64 t266, .int .i64 0]) ?_ 9 _ rfl; (with_reducible repeat (first | refine blk_drewN ?_ _ | refine blk_drew ?_ | refine blk_alloc ?_ _)); refine blk_put (cs := #[.int .i64 t258, .string t259, .string t260, .int .i64 t261, .string t262, .int .i64 t263, .bool t264, .int .i64 t265, .int .i64 0, .int .i64 0]) ?_ 8 _ rfl; (with_reducible repeat (first | refine blk_drewN ?_ _ | refine blk_drew ?_ | refine blk_alloc ?_ _)); refine blk_put (cs := #[.int .i64 t258, .string t259, .string t260, .int .i64 t261, .string t262, .int .i64 t263, .bool t264, .int .i64 0, .int .i64 0, .int .i64 0]) ?_ 7 _ rfl; (with_reducible repeat (first | refine blk_drewN ?_ _ | refine blk_drew ?_ | refine blk_alloc ?_ _)); refine blk_put (cs := #[.int .i64 t258, .string t259, .string t260, .int .i64 t261, .string t262, .int .i64 t263, .bool false, .int .i64 0, .int .i64 0, .int .i64 0]) ?_ 6 _ rfl; (with_reducible repeat (first | refine blk_drewN ?_ _ | refine blk_drew ?_ | refine blk_alloc ?_ _)); refine blk_put (cs := #[.int .i64 t258, .string t259, .string t260, .int .i64 t261, .string t262, .int .i64 0, .bool false, .int .i64 0, .int .i64 0, .int .i64 0]) ?_ 5 _ rfl; (with_reducible repeat (first | refine blk_drewN ?_ _ | refine blk_drew ?_ | refine blk_alloc ?_ _)); refine blk_put (cs := #[.int .i64 t258, .string t259, .string t260, .int .i64 t261, .string (⟨#[]⟩ : ByteArray), .int .i64 0, .bool false, .int .i64 0, .int .i64 0, .int .i64 0]) ?_ 4 _ rfl; (with_reducible repeat (first | refine blk_drewN ?_ _ | refine blk_drew ?_ | refine blk_alloc ?_ _)); refine blk_put (cs := #[.int .i64 t258, .string t259, .string t260, .int .i64 0, .string (⟨#[]⟩ : ByteArray), .int .i64 0, .bool false, .int .i64 0, .int .i64 0, .int .i64 0]) ?_ 3 _ rfl; (with_reducible repeat (first | refine blk_drewN ?_ _ | refine blk_drew ?_ | refine blk_alloc ?_ _)); refine blk_put (cs := #[.int .i64 t258, .string t259, .string (⟨#[]⟩ : ByteArray), .int .i64 0, .string (⟨#[]⟩ : ByteArray), .int .i64 0, .bool false, .int .i64 0, .int .i64 0, .int .i64 0]) ?_ 2 _ rfl; (with_reducible repeat (first | refine blk_drewN ?_ _ | refine blk_drew ?_ | refine blk_alloc ?_ _)); refine blk_put (cs := #[.int .i64 t258, .string (⟨#[]⟩ : ByteArray), .string (⟨#[]⟩ : ByteArray), .int .i64 0, .string (⟨#[]⟩ : ByteArray), .int .i64 0, .bool false, .int .i64 0, .int .i64 0, .int .i64 0]) ?_ 1 _ rfl; (with_reducible repeat (first | refine blk_drewN ?_ _ | refine blk_drew ?_ | refine blk_alloc ?_ _)); refine blk_put (cs := #[.int .i64 0, .string (⟨#[]⟩ : ByteArray), .string (⟨#[]⟩ : ByteArray), .int .i64 0, .string (⟨#[]⟩ : ByteArray), .int .i64 0, .bool false, .int .i64 0, .int .i64 0, .int .i64 0]) ?_ 0 _ rfl; (with_reducible repeat (first | refine blk_drewN ?_ _ | refine blk_drew ?_ | refine blk_alloc ?_ _)); exact BK269.out) hb); have n2_ := Aside0.mk (below_step (by repeat (first | (with_reducible first | exact HB.out | apply below_alloc | apply pw_below_drewN | apply below_drew1 | refine below_set ?_ GE257.out | refine below_set ?_ GE269.out) | exact HB.out)) hb); clear BK257; clear BK269; clear HB; have BK257 := n0_; have BK269 := n1_; have HB := n2_; clear n0_ n1_ n2_; (try clear hb); (try clear hb2); (try clear hk); (try clear hi)) | ((with_reducible refine gate_dst (N := 5) rfl ?_); (try (refine gate_guard (by rfl) ?_; dsimp only)); refine box_event ?hg (N := 5) ?hd (cs := #[.int .i64 0, .string (⟨#[]⟩ : ByteArray), .string (⟨#[]⟩ : ByteArray), .int .i64 0, .string (⟨#[]⟩ : ByteArray), .int .i64 0, .bool false, .int .i64 0, .int .i64 0, .int .i64 0]) (t := 27) ?hr ?_; (case hd => rfl); (case hg => rfl); (case hr => first | (go_simp; done) | (go_simp; rfl)); intro gb281 hg w25 hbox hb; have n0_ := Aside0.mk (blk_below (g := gb257) (o := .cells #[.int .i64 t246, .string t247, .string t248, .int .i64 t249, .string t250, .int .i64 t251, .bool t252, .int .i64 t253, .int .i64 t254, .int .i64 t255] 27 (0, 0)) (by (with_reducible repeat (first | refine blk_drewN ?_ _ | refine blk_drew ?_ | refine blk_alloc ?_ _)); exact BK257.out) hb); have n1_ := Aside0.mk (blk_below (g := gb269) (o := .cells #[.int .i64 t258, .string t259, .string t260, .int .i64 t261, .string t262, .int .i64 t263, .bool t264, .int .i64 t265, .int .i64 t266, .int .i64 t267] 27 (0, 0)) (by (with_reducible repeat (first | refine blk_drewN ?_ _ | refine blk_drew ?_ | refine blk_alloc ?_ _)); exact BK269.out) hb); have n2_ := Aside0.mk (below_step (by repeat (first | (with_reducible first | exact HB.out | apply below_alloc | apply pw_below_drewN | apply below_drew1 | refine below_set ?_ GE257.out | refine below_set ?_ GE269.out) | exact HB.out)) hb); have n3_ := Aside0.mk (hbox); have n4_ := Aside0.mk ((by rw [hg]; exact (below_size (by repeat (first | (with_reducible first | exact HB.out | apply below_alloc | apply pw_below_drewN | apply below_drew1 | refine below_set ?_ GE257.out | refine below_set ?_ GE269.out) | exact HB.out))) : w.heap.size ≤ gb281)); have n5_ := Aside0.mk ((by rw [hg]; exact (below_size (by repeat (first | (with_reducible first | exact HB.out | apply below_alloc | apply pw_below_drewN | apply below_drew1 | refine below_set ?_ GE257.out | refine below_set ?_ GE269.out) | exact HB.out))) : w.heap.size ≤ gb281)); have n6_ := Aside0.mk ((by rw [hg]; exact Nat.ne_of_lt (blk_lt (g := gb257) (o := .cells #[.int .i64 t246, .string t247, .string t248, .int .i64 t249, .string t250, .int .i64 t251, .bool t252, .int .i64 t253, .int .i64 t254, .int .i64 t255] 27 (0, 0)) (by (with_reducible repeat (first | refine blk_drewN ?_ _ | refine blk_drew ?_ | refine blk_alloc ?_ _)); exact BK257.out)) : gb257 ≠ gb281)); have n7_ := Aside0.mk ((by rw [hg]; exact Nat.ne_of_gt (blk_lt (g := gb257) (o := .cells #[.int .i64 t246, .string t247, .string t248, .int .i64 t249, .string t250, .int .i64 t251, .bool t252, .int .i64 t253, .int .i64 t254, .int .i64 t255] 27 (0, 0)) (by (with_reducible repeat (first | refine blk_drewN ?_ _ | refine blk_drew ?_ | refine blk_alloc ?_ _)); exact BK257.out)) : gb281 ≠ gb257)); have n8_ := Aside0.mk ((by rw [hg]; exact Nat.ne_of_lt (blk_lt (g := gb269) (o := .cells #[.int .i64 t258, .string t259, .string t260, .int .i64 t261, .string t262, .int .i64 t263, .bool t264, .int .i64 t265, .int .i64 t266, .int .i64 t267] 27 (0, 0)) (by (with_reducible repeat (first | refine blk_drewN ?_ _ | refine blk_drew ?_ | refine blk_alloc ?_ _)); exact BK269.out)) : gb269 ≠ gb281)); have n9_ := Aside0.mk ((by rw [hg]; exact Nat.ne_of_gt (blk_lt (g := gb269) (o := .cells #[.int .i64 t258, .string t259, .string t260, .int .i64 t261, .string t262, .int .i64 t263, .bool t264, .int .i64 t265, .int .i64 t266, .int .i64 t267] 27 (0, 0)) (by (with_reducible repeat (first | refine blk_drewN ?_ _ | refine blk_drew ?_ | refine blk_alloc ?_ _)); exact BK269.out)) : gb281 ≠ gb269)); clear BK257; clear BK269; clear HB; have BK257 := n0_; have BK269 := n1_; have HB := n2_; have BK281 := n3_; have GW281 := n4_; have GE281 := n5_; have NB257_281 := n6_; have NB281_257 := n7_; have NB269_281 := n8_; have NB281_269 := n9_; clear n0_ n1_ n2_ n3_ n4_ n5_ n6_ n7_ n8_ n9_; clear hb hbox hg; have hnb26 := NB281_257.out; have hnc26 := NB257_281.out; have hnb27 := NB281_269.out; have hnc27 := NB269_281.out; have hcz28_0 : w25.cell? ⟨gb281, 0, none⟩ = some (.int .i64 0) := (blk_cell BK281.out 0).trans rfl; have hcz28_1 : w25.cell? ⟨gb281, 1, none⟩ = some (.string (⟨#[]⟩ : ByteArray)) := (blk_cell BK281.out 1).trans rfl; have hcz28_2 : w25.cell? ⟨gb281, 2, none⟩ = some (.string (⟨#[]⟩ : ByteArray)) := (blk_cell BK281.out 2).trans rfl; have hcz28_3 : w25.cell? ⟨gb281, 3, none⟩ = some (.int .i64 0) := (blk_cell BK281.out 3).trans rfl; have hcz28_4 : w25.cell? ⟨gb281, 4, none⟩ = some (.string (⟨#[]⟩ : ByteArray)) := (blk_cell BK281.out 4).trans rfl; have hcz28_5 : w25.cell? ⟨gb281, 5, none⟩ = some (.int .i64 0) := (blk_cell BK281.out 5).trans rfl; have hcz28_6 : w25.cell? ⟨gb281, 6, none⟩ = some (.bool false) := (blk_cell BK281.out 6).trans rfl; have hcz28_7 : w25.cell? ⟨gb281, 7, none⟩ = some (.int .i64 0) := (blk_cell BK281.out 7).trans rfl; have hcz28_8 : w25.cell? ⟨gb281, 8, none⟩ = some (.int .i64 0) := (blk_cell BK281.out 8).trans rfl; have hcz28_9 : w25.cell? ⟨gb281, 9, none⟩ = some (.int .i64 0) := (blk_cell BK281.out 9).trans rfl; have hfz28_0 := blk_frozen BK281.out 0; have hfz28_1 := blk_frozen BK281.out 1; have hfz28_2 := blk_frozen BK281.out 2; have hfz28_3 := blk_frozen BK281.out 3; have hfz28_4 := blk_frozen BK281.out 4; have hfz28_5 := blk_frozen BK281.out 5; have hfz28_6 := blk_frozen BK281.out 6; have hfz28_7 := blk_frozen BK281.out 7; have hfz28_8 := blk_frozen BK281.out 8; have hfz28_9 := blk_frozen BK281.out 9) | ((with_reducible refine gate_callee (f := 17) rfl ?_); refine goesL_ (some 22) rfl rfl Tryz.func17 (by kernel_rfl) rfl #[.string (⟨#[35, 32, 110, 111, 116, 104, 105, 110, 103]⟩ : ByteArray)] rfl (by (try simp only [List.map_toArray, List.map_cons, List.map_nil]); first | done | rfl | (simp only [List.length_drop, List.length_take]; rfl)) ?_; (with_reducible refine (order_Parse.calls (⟨#[35, 32, 110, 111, 116, 104, 105, 110, 103]⟩ : ByteArray) t282 t283 t284 t285 t286 t287 t288 t289 t290 t291 t292 _ (⟨Ext.tab_below hT.out (by repeat (first | (with_reducible first | exact HB.out | apply below_alloc | apply pw_below_drewN | apply below_drew1 | refine below_set ?_ GE257.out | refine below_set ?_ GE269.out | refine below_set ?_ GE281.out | refine below_set ?_ GE293.out) | exact HB.out))⟩) A4.out).mono ?_); rintro e w29 ⟨rfl, hb⟩; refine ⟨_, rfl, ?_⟩; have n0_ := Aside0.mk (blk_below (g := gb257) (o := .cells #[.int .i64 t246, .string t247, .string t248, .int .i64 t249, .string t250, .int .i64 t251, .bool t252, .int .i64 t253, .int .i64 t254, .int .i64 t255] 27 (0, 0)) (by (with_reducible repeat (first | refine blk_drewN ?_ _ | refine blk_drew ?_ | refine blk_alloc ?_ _)); refine blk_far ?_ NB257_281.out _; (with_reducible repeat (first | refine blk_drewN ?_ _ | refine blk_drew ?_ | refine blk_alloc ?_ _)); refine blk_far ?_ NB257_281.out _; (with_reducible repeat (first | refine blk_drewN ?_ _ | refine blk_drew ?_ | refine blk_alloc ?_ _)); refine blk_far ?_ NB257_281.out _; (with_reducible repeat (first | refine blk_drewN ?_ _ | refine blk_drew ?_ | refine blk_alloc ?_ _)); refine blk_far ?_ NB257_281.out _; (with_reducible repeat (first | refine blk_drewN ?_ _ | refine blk_drew ?_ | refine blk_alloc ?_ _)); refine blk_far ?_ NB257_281.out _; (with_reducible repeat (first | refine blk_drewN ?_ _ | refine blk_drew ?_ | refine blk_alloc ?_ _)); refine blk_far ?_ NB257_281.out _; (with_reducible repeat (first | refine blk_drewN ?_ _ | refine blk_drew ?_ | refine blk_alloc ?_ _)); refine blk_far ?_ NB257_281.out _; (with_reducible repeat (first | refine blk_drewN ?_ _ | refine blk_drew ?_ | refine blk_alloc ?_ _)); refine blk_far ?_ NB257_281.out _; (with_reducible repeat (first | refine blk_drewN ?_ _ | refine blk_drew ?_ | refine blk_alloc ?_ _)); refine blk_far ?_ NB257_281.out _; (with_reducible repeat (first | refine blk_drewN ?_ _ | refine blk_drew ?_ | refine blk_alloc ?_ _)); refine blk_far ?_ NB257_281.out _; (with_reducible repeat (first | refine blk_drewN ?_ _ | refine blk_drew ?_ | refine blk_alloc ?_ _)); exact BK257.out) hb); have n1_ := Aside0.mk (blk_below (g := gb269) (o := .cells #[.int .i64 t258, .string t259, .string t260, .int .i64 t261, .string t262, .int .i64 t263, .bool t264, .int .i64 t265, .int .i64 t266, .int .i64 t267] 27 (0, 0)) (by (with_reducible repeat (first | refine blk_drewN ?_ _ | refine blk_drew ?_ | refine blk_alloc ?_ _)); refine blk_far ?_ NB269_281.out _; (with_reducible repeat (first | refine blk_drewN ?_ _ | refine blk_drew ?_ | refine blk_alloc ?_ _)); refine blk_far ?_ NB269_281.out _; (with_reducible repeat (first | refine blk_drewN ?_ _ | refine blk_drew ?_ | refine blk_alloc ?_ _)); refine blk_far ?_ NB269_281.out _; (with_reducible repeat (first | refine blk_drewN ?_ _ | refine blk_drew ?_ | refine blk_alloc ?_ _)); refine blk_far ?_ NB269_281.out _; (with_reducible repeat (first | refine blk_drewN ?_ _ | refine blk_drew ?_ | refine blk_alloc ?_ _)); refine blk_far ?_ NB269_281.out _; (with_reducible repeat (first | refine blk_drewN ?_ _ | refine blk_drew ?_ | refine blk_alloc ?_ _)); refine blk_far ?_ NB269_281.out _; (with_reducible repeat (first | refine blk_drewN ?_ _ | refine blk_drew ?_ | refine blk_alloc ?_ _)); refine blk_far ?_ NB269_281.out _; (with_reducible repeat (first | refine blk_drewN ?_ _ | refine blk_drew ?_ | refine blk_alloc ?_ _)); refine blk_far ?_ NB269_281.out _; (with_reducible repeat (first | refine blk_drewN ?_ _ | refine blk_drew ?_ | refine blk_alloc ?_ _)); refine blk_far ?_ NB269_281.out _; (with_reducible repeat (first | refine blk_drewN ?_ _ | refine blk_drew ?_ | refine blk_alloc ?_ _)); refine blk_far ?_ NB269_281.out _; (with_reducible repeat (first | refine blk_drewN ?_ _ | refine blk_drew ?_ | refine blk_alloc ?_ _)); exact BK269.out) hb); have n2_ := Aside0.mk (blk_below (g := gb281) (o := .cells #[.int .i64 t270, .string t271, .string t272, .int .i64 t273, .string t274, .int .i64 t275, .bool t276, .int .i64 t277, .int .i64 t278, .int .i64 t279] 27 (0, 0)) (by (with_reducible repeat (first | refine blk_drewN ?_ _ | refine blk_drew ?_ | refine blk_alloc ?_ _)); refine blk_put (cs := #[.int .i64 t270, .string t271, .string t272, .int .i64 t273, .string t274, .int .i64 t275, .bool t276, .int .i64 t277, .int .i64 t278, .int .i64 0]) ?_ 9 _ rfl; (with_reducible repeat (first | refine blk_drewN ?_ _ | refine blk_drew ?_ | refine blk_alloc ?_ _)); refine blk_put (cs := #[.int .i64 t270, .string t271, .string t272, .int .i64 t273, .string t274, .int .i64 t275, .bool t276, .int .i64 t277, .int .i64 0, .int .i64 0]) ?_ 8 _ rfl; (with_reducible repeat (first | refine blk_drewN ?_ _ | refine blk_drew ?_ | refine blk_alloc ?_ _)); refine blk_put (cs := #[.int .i64 t270, .string t271, .string t272, .int .i64 t273, .string t274, .int .i64 t275, .bool t276, .int .i64 0, .int .i64 0, .int .i64 0]) ?_ 7 _ rfl; (with_reducible repeat (first | refine blk_drewN ?_ _ | refine blk_drew ?_ | refine blk_alloc ?_ _)); refine blk_put (cs := #[.int .i64 t270, .string t271, .string t272, .int .i64 t273, .string t274, .int .i64 t275, .bool false, .int .i64 0, .int .i64 0, .int .i64 0]) ?_ 6 _ rfl; (with_reducible repeat (first | refine blk_drewN ?_ _ | refine blk_drew ?_ | refine blk_alloc ?_ _)); refine blk_put (cs := #[.int .i64 t270, .string t271, .string t272, .int .i64 t273, .string t274, .int .i64 0, .bool false, .int .i64 0, .int .i64 0, .int .i64 0]) ?_ 5 _ rfl; (with_reducible repeat (first | refine blk_drewN ?_ _ | refine blk_drew ?_ | refine blk_alloc ?_ _)); refine blk_put (cs := #[.int .i64 t270, .string t271, .string t272, .int .i64 t273, .string (⟨#[]⟩ : ByteArray), .int .i64 0, .bool false, .int .i64 0, .int .i64 0, .int .i64 0]) ?_ 4 _ rfl; (with_reducible repeat (first | refine blk_drewN ?_ _ | refine blk_drew ?_ | refine blk_alloc ?_ _)); refine blk_put (cs := #[.int .i64 t270, .string t271, .string t272, .int .i64 0, .string (⟨#[]⟩ : ByteArray), .int .i64 0, .bool false, .int .i64 0, .int .i64 0, .int .i64 0]) ?_ 3 _ rfl; (with_reducible repeat (first | refine blk_drewN ?_ _ | refine blk_drew ?_ | refine blk_alloc ?_ _)); refine blk_put (cs := #[.int .i64 t270, .string t271, .string (⟨#[]⟩ : ByteArray), .int .i64 0, .string (⟨#[]⟩ : ByteArray), .int .i64 0, .bool false, .int .i64 0, .int .i64 0, .int .i64 0]) ?_ 2 _ rfl; (with_reducible repeat (first | refine blk_drewN ?_ _ | refine blk_drew ?_ | refine blk_alloc ?_ _)); refine blk_put (cs := #[.int .i64 t270, .string (⟨#[]⟩ : ByteArray), .string (⟨#[]⟩ : ByteArray), .int .i64 0, .string (⟨#[]⟩ : ByteArray), .int .i64 0, .bool false, .int .i64 0, .int .i64 0, .int .i64 0]) ?_ 1 _ rfl; (with_reducible repeat (first | refine blk_drewN ?_ _ | refine blk_drew ?_ | refine blk_alloc ?_ _)); refine blk_put (cs := #[.int .i64 0, .string (⟨#[]⟩ : ByteArray), .string (⟨#[]⟩ : ByteArray), .int .i64 0, .string (⟨#[]⟩ : ByteArray), .int .i64 0, .bool false, .int .i64 0, .int .i64 0, .int .i64 0]) ?_ 0 _ rfl; (with_reducible repeat (first | refine blk_drewN ?_ _ | refine blk_drew ?_ | refine blk_alloc ?_ _)); exact BK281.out) hb); have n3_ := Aside0.mk (below_step (by repeat (first | (with_reducible first | exact HB.out | apply below_alloc | apply pw_below_drewN | apply below_drew1 | refine below_set ?_ GE257.out | refine below_set ?_ GE269.out | refine below_set ?_ GE281.out) | exact HB.out)) hb); clear BK257; clear BK269; clear BK281; clear HB; have BK257 := n0_; have BK269 := n1_; have BK281 := n2_; have HB := n3_; clear n0_ n1_ n2_ n3_; (try clear hb); (try clear hb2); (try clear hk); (try clear hi)) | ((with_reducible refine gate_dst (N := 7) rfl ?_); (try (refine gate_guard (by rfl) ?_; dsimp only)); refine box_event ?hg (N := 7) ?hd (cs := #[.int .i64 0, .string (⟨#[]⟩ : ByteArray), .string (⟨#[]⟩ : ByteArray), .int .i64 0, .string (⟨#[]⟩ : ByteArray), .int .i64 0, .bool false, .int .i64 0, .int .i64 0, .int .i64 0]) (t := 27) ?hr ?_; (case hd => rfl); (case hg => rfl); (case hr => first | (go_simp; done) | (go_simp; rfl)); intro gb293 hg w30 hbox hb; have n0_ := Aside0.mk (blk_below (g := gb257) (o := .cells #[.int .i64 t246, .string t247, .string t248, .int .i64 t249, .string t250, .int .i64 t251, .bool t252, .int .i64 t253, .int .i64 t254, .int .i64 t255] 27 (0, 0)) (by (with_reducible repeat (first | refine blk_drewN ?_ _ | refine blk_drew ?_ | refine blk_alloc ?_ _)); exact BK257.out) hb); have n1_ := Aside0.mk (blk_below (g := gb269) (o := .cells #[.int .i64 t258, .string t259, .string t260, .int .i64 t261, .string t262, .int .i64 t263, .bool t264, .int .i64 t265, .int .i64 t266, .int .i64 t267] 27 (0, 0)) (by (with_reducible repeat (first | refine blk_drewN ?_ _ | refine blk_drew ?_ | refine blk_alloc ?_ _)); exact BK269.out) hb); have n2_ := Aside0.mk (blk_below (g := gb281) (o := .cells #[.int .i64 t270, .string t271, .string t272, .int .i64 t273, .string t274, .int .i64 t275, .bool t276, .int .i64 t277, .int .i64 t278, .int .i64 t279] 27 (0, 0)) (by (with_reducible repeat (first | refine blk_drewN ?_ _ | refine blk_drew ?_ | refine blk_alloc ?_ _)); exact BK281.out) hb); have n3_ := Aside0.mk (below_step (by repeat (first | (with_reducible first | exact HB.out | apply below_alloc | apply pw_below_drewN | apply below_drew1 | refine below_set ?_ GE257.out | refine below_set ?_ GE269.out | refine below_set ?_ GE281.out) | exact HB.out)) hb); have n4_ := Aside0.mk (hbox); have n5_ := Aside0.mk ((by rw [hg]; exact (below_size (by repeat (first | (with_reducible first | exact HB.out | apply below_alloc | apply pw_below_drewN | apply below_drew1 | refine below_set ?_ GE257.out | refine below_set ?_ GE269.out | refine below_set ?_ GE281.out) | exact HB.out))) : w.heap.size ≤ gb293)); have n6_ := Aside0.mk ((by rw [hg]; exact (below_size (by repeat (first | (with_reducible first | exact HB.out | apply below_alloc | apply pw_below_drewN | apply below_drew1 | refine below_set ?_ GE257.out | refine below_set ?_ GE269.out | refine below_set ?_ GE281.out) | exact HB.out))) : w.heap.size ≤ gb293)); have n7_ := Aside0.mk ((by rw [hg]; exact Nat.ne_of_lt (blk_lt (g := gb257) (o := .cells #[.int .i64 t246, .string t247, .string t248, .int .i64 t249, .string t250, .int .i64 t251, .bool t252, .int .i64 t253, .int .i64 t254, .int .i64 t255] 27 (0, 0)) (by (with_reducible repeat (first | refine blk_drewN ?_ _ | refine blk_drew ?_ | refine blk_alloc ?_ _)); exact BK257.out)) : gb257 ≠ gb293)); have n8_ := Aside0.mk ((by rw [hg]; exact Nat.ne_of_gt (blk_lt (g := gb257) (o := .cells #[.int .i64 t246, .string t247, .string t248, .int .i64 t249, .string t250, .int .i64 t251, .bool t252, .int .i64 t253, .int .i64 t254, .int .i64 t255] 27 (0, 0)) (by (with_reducible repeat (first | refine blk_drewN ?_ _ | refine blk_drew ?_ | refine blk_alloc ?_ _)); exact BK257.out)) : gb293 ≠ gb257)); have n9_ := Aside0.mk ((by rw [hg]; exact Nat.ne_of_lt (blk_lt (g := gb269) (o := .cells #[.int .i64 t258, .string t259, .string t260, .int .i64 t261, .string t262, .int .i64 t263, .bool t264, .int .i64 t265, .int .i64 t266, .int .i64 t267] 27 (0, 0)) (by (with_reducible repeat (first | refine blk_drewN ?_ _ | refine blk_drew ?_ | refine blk_alloc ?_ _)); exact BK269.out)) : gb269 ≠ gb293)); have n10_ := Aside0.mk ((by rw [hg]; exact Nat.ne_of_gt (blk_lt (g := gb269) (o := .cells #[.int .i64 t258, .string t259, .string t260, .int .i64 t261, .string t262, .int .i64 t263, .bool t264, .int .i64 t265, .int .i64 t266, .int .i64 t267] 27 (0, 0)) (by (with_reducible repeat (first | refine blk_drewN ?_ _ | refine blk_drew ?_ | refine blk_alloc ?_ _)); exact BK269.out)) : gb293 ≠ gb269)); have n11_ := Aside0.mk ((by rw [hg]; exact Nat.ne_of_lt (blk_lt (g := gb281) (o := .cells #[.int .i64 t270, .string t271, .string t272, .int .i64 t273, .string t274, .int .i64 t275, .bool t276, .int .i64 t277, .int .i64 t278, .int .i64 t279] 27 (0, 0)) (by (with_reducible repeat (first | refine blk_drewN ?_ _ | refine blk_drew ?_ | refine blk_alloc ?_ _)); exact BK281.out)) : gb281 ≠ gb293)); have n12_ := Aside0.mk ((by rw [hg]; exact Nat.ne_of_gt (blk_lt (g := gb281) (o := .cells #[.int .i64 t270, .string t271, .string t272, .int .i64 t273, .string t274, .int .i64 t275, .bool t276, .int .i64 t277, .int .i64 t278, .int .i64 t279] 27 (0, 0)) (by (with_reducible repeat (first | refine blk_drewN ?_ _ | refine blk_drew ?_ | refine blk_alloc ?_ _)); exact BK281.out)) : gb293 ≠ gb281)); clear BK257; clear BK269; clear BK281; clear HB; have BK257 := n0_; have BK269 := n1_; have BK281 := n2_; have HB := n3_; have BK293 := n4_; have GW293 := n5_; have GE293 := n6_; have NB257_293 := n7_; have NB293_257 := n8_; have NB269_293 := n9_; have NB293_269 := n10_; have NB281_293 := n11_; have NB293_281 := n12_; clear n0_ n1_ n2_ n3_ n4_ n5_ n6_ n7_ n8_ n9_ n10_ n11_ n12_; clear hb hbox hg; have hnb31 := NB293_257.out; have hnc31 := NB257_293.out; have hnb32 := NB293_269.out; have hnc32 := NB269_293.out; have hnb33 := NB293_281.out; have hnc33 := NB281_293.out; have hcz34_0 : w30.cell? ⟨gb293, 0, none⟩ = some (.int .i64 0) := (blk_cell BK293.out 0).trans rfl; have hcz34_1 : w30.cell? ⟨gb293, 1, none⟩ = some (.string (⟨#[]⟩ : ByteArray)) := (blk_cell BK293.out 1).trans rfl; have hcz34_2 : w30.cell? ⟨gb293, 2, none⟩ = some (.string (⟨#[]⟩ : ByteArray)) := (blk_cell BK293.out 2).trans rfl; have hcz34_3 : w30.cell? ⟨gb293, 3, none⟩ = some (.int .i64 0) := (blk_cell BK293.out 3).trans rfl; have hcz34_4 : w30.cell? ⟨gb293, 4, none⟩ = some (.string (⟨#[]⟩ : ByteArray)) := (blk_cell BK293.out 4).trans rfl; have hcz34_5 : w30.cell? ⟨gb293, 5, none⟩ = some (.int .i64 0) := (blk_cell BK293.out 5).trans rfl; have hcz34_6 : w30.cell? ⟨gb293, 6, none⟩ = some (.bool false) := (blk_cell BK293.out 6).trans rfl; have hcz34_7 : w30.cell? ⟨gb293, 7, none⟩ = some (.int .i64 0) := (blk_cell BK293.out 7).trans rfl; have hcz34_8 : w30.cell? ⟨gb293, 8, none⟩ = some (.int .i64 0) := (blk_cell BK293.out 8).trans rfl; have hcz34_9 : w30.cell? ⟨gb293, 9, none⟩ = some (.int .i64 0) := (blk_cell BK293.out 9).trans rfl; have hfz34_0 := blk_frozen BK293.out 0; have hfz34_1 := blk_frozen BK293.out 1; have hfz34_2 := blk_frozen BK293.out 2; have hfz34_3 := blk_frozen BK293.out 3; have hfz34_4 := blk_frozen BK293.out 4; have hfz34_5 := blk_frozen BK293.out 5; have hfz34_6 := blk_frozen BK293.out 6; have hfz34_7 := blk_frozen BK293.out 7; have hfz34_8 := blk_frozen BK293.out 8; have hfz34_9 := blk_frozen BK293.out 9; have hcz35_0 : w30.cell? ⟨gb257, 0, none⟩ = some (.int .i64 t246) := (blk_cell BK257.out 0).trans rfl; have hcz35_1 : w30.cell? ⟨gb257, 1, none⟩ = some (.string t247) := (blk_cell BK257.out 1).trans rfl; have hcz35_2 : w30.cell? ⟨gb257, 2, none⟩ = some (.string t248) := (blk_cell BK257.out 2).trans rfl; have hcz35_3 : w30.cell? ⟨gb257, 3, none⟩ = some (.int .i64 t249) := (blk_cell BK257.out 3).trans rfl; have hcz35_4 : w30.cell? ⟨gb257, 4, none⟩ = some (.string t250) := (blk_cell BK257.out 4).trans rfl; have hcz35_5 : w30.cell? ⟨gb257, 5, none⟩ = some (.int .i64 t251) := (blk_cell BK257.out 5).trans rfl; have hcz35_6 : w30.cell? ⟨gb257, 6, none⟩ = some (.bool t252) := (blk_cell BK257.out 6).trans rfl; have hcz35_7 : w30.cell? ⟨gb257, 7, none⟩ = some (.int .i64 t253) := (blk_cell BK257.out 7).trans rfl; have hcz35_8 : w30.cell? ⟨gb257, 8, none⟩ = some (.int .i64 t254) := (blk_cell BK257.out 8).trans rfl; have hcz35_9 : w30.cell? ⟨gb257, 9, none⟩ = some (.int .i64 t255) := (blk_cell BK257.out 9).trans rfl; have hfz35_0 := blk_frozen BK257.out 0; have hfz35_1 := blk_frozen BK257.out 1; have hfz35_2 := blk_frozen BK257.out 2; have hfz35_3 := blk_frozen BK257.out 3; have hfz35_4 := blk_frozen BK257.out 4; have hfz35_5 := blk_frozen BK257.out 5; have hfz35_6 := blk_frozen BK257.out 6; have hfz35_7 := blk_frozen BK257.out 7; have hfz35_8 := blk_frozen BK257.out 8; have hfz35_9 := blk_frozen BK257.out 9) | (go_at_call 14; (with_reducible refine (order_Text.calls k t246 t247 t248 t249 t250 t251 t252 t253 t254 t255 t294 _ (⟨Ext.tab_below hT.out (by repeat (first | (with_reducible first | exact HB.out | apply below_alloc | apply pw_below_drewN | apply below_drew1 | refine below_set ?_ GE257.out | refine below_set ?_ GE269.out | refine below_set ?_ GE281.out | refine below_set ?_ GE293.out) | exact HB.out))⟩) A9.out).mono ?_); rintro e w36 ⟨rfl, hb⟩; have n0_ := Aside0.mk (blk_below (g := gb257) (o := .cells #[.int .i64 t246, .string t247, .string t248, .int .i64 t249, .string t250, .int .i64 t251, .bool t252, .int .i64 t253, .int .i64 t254, .int .i64 t255] 27 (0, 0)) (by (with_reducible repeat (first | refine blk_drewN ?_ _ | refine blk_drew ?_ | refine blk_alloc ?_ _)); refine blk_far ?_ NB257_293.out _; (with_reducible repeat (first | refine blk_drewN ?_ _ | refine blk_drew ?_ | refine blk_alloc ?_ _)); refine blk_far ?_ NB257_293.out _; (with_reducible repeat (first | refine blk_drewN ?_ _ | refine blk_drew ?_ | refine blk_alloc ?_ _)); refine blk_far ?_ NB257_293.out _; (with_reducible repeat (first | refine blk_drewN ?_ _ | refine blk_drew ?_ | refine blk_alloc ?_ _)); refine blk_far ?_ NB257_293.out _; (with_reducible repeat (first | refine blk_drewN ?_ _ | refine blk_drew ?_ | refine blk_alloc ?_ _)); refine blk_far ?_ NB257_293.out _; (with_reducible repeat (first | refine blk_drewN ?_ _ | refine blk_drew ?_ | refine blk_alloc ?_ _)); refine blk_far ?_ NB257_293.out _; (with_reducible repeat (first | refine blk_drewN ?_ _ | refine blk_drew ?_ | refine blk_alloc ?_ _)); refine blk_far ?_ NB257_293.out _; (with_reducible repeat (first | refine blk_drewN ?_ _ | refine blk_drew ?_ | refine blk_alloc ?_ _)); refine blk_far ?_ NB257_293.out _; (with_reducible repeat (first | refine blk_drewN ?_ _ | refine blk_drew ?_ | refine blk_alloc ?_ _)); refine blk_far ?_ NB257_293.out _; (with_reducible repeat (first | refine blk_drewN ?_ _ | refine blk_drew ?_ | refine blk_alloc ?_ _)); refine blk_far ?_ NB257_293.out _; (with_reducible repeat (first | refine blk_drewN ?_ _ | refine blk_drew ?_ | refine blk_alloc ?_ _)); exact BK257.out) hb); have n1_ := Aside0.mk (blk_below (g := gb269) (o := .cells #[.int .i64 t258, .string t259, .string t260, .int .i64 t261, .string t262, .int .i64 t263, .bool t264, .int .i64 t265, .int .i64 t266, .int .i64 t267] 27 (0, 0)) (by (with_reducible repeat (first | refine blk_drewN ?_ _ | refine blk_drew ?_ | refine blk_alloc ?_ _)); refine blk_far ?_ NB269_293.out _; (with_reducible repeat (first | refine blk_drewN ?_ _ | refine blk_drew ?_ | refine blk_alloc ?_ _)); refine blk_far ?_ NB269_293.out _; (with_reducible repeat (first | refine blk_drewN ?_ _ | refine blk_drew ?_ | refine blk_alloc ?_ _)); refine blk_far ?_ NB269_293.out _; (with_reducible repeat (first | refine blk_drewN ?_ _ | refine blk_drew ?_ | refine blk_alloc ?_ _)); refine blk_far ?_ NB269_293.out _; (with_reducible repeat (first | refine blk_drewN ?_ _ | refine blk_drew ?_ | refine blk_alloc ?_ _)); refine blk_far ?_ NB269_293.out _; (with_reducible repeat (first | refine blk_drewN ?_ _ | refine blk_drew ?_ | refine blk_alloc ?_ _)); refine blk_far ?_ NB269_293.out _; (with_reducible repeat (first | refine blk_drewN ?_ _ | refine blk_drew ?_ | refine blk_alloc ?_ _)); refine blk_far ?_ NB269_293.out _; (with_reducible repeat (first | refine blk_drewN ?_ _ | refine blk_drew ?_ | refine blk_alloc ?_ _)); refine blk_far ?_ NB269_293.out _; (with_reducible repeat (first | refine blk_drewN ?_ _ | refine blk_drew ?_ | refine blk_alloc ?_ _)); refine blk_far ?_ NB269_293.out _; (with_reducible repeat (first | refine blk_drewN ?_ _ | refine blk_drew ?_ | refine blk_alloc ?_ _)); refine blk_far ?_ NB269_293.out _; (with_reducible repeat (first | refine blk_drewN ?_ _ | refine blk_drew ?_ | refine blk_alloc ?_ _)); exact BK269.out) hb); have n2_ := Aside0.mk (blk_below (g := gb281) (o := .cells #[.int .i64 t270, .string t271, .string t272, .int .i64 t273, .string t274, .int .i64 t275, .bool t276, .int .i64 t277, .int .i64 t278, .int .i64 t279] 27 (0, 0)) (by (with_reducible repeat (first | refine blk_drewN ?_ _ | refine blk_drew ?_ | refine blk_alloc ?_ _)); refine blk_far ?_ NB281_293.out _; (with_reducible repeat (first | refine blk_drewN ?_ _ | refine blk_drew ?_ | refine blk_alloc ?_ _)); refine blk_far ?_ NB281_293.out _; (with_reducible repeat (first | refine blk_drewN ?_ _ | refine blk_drew ?_ | refine blk_alloc ?_ _)); refine blk_far ?_ NB281_293.out _; (with_reducible repeat (first | refine blk_drewN ?_ _ | refine blk_drew ?_ | refine blk_alloc ?_ _)); refine blk_far ?_ NB281_293.out _; (with_reducible repeat (first | refine blk_drewN ?_ _ | refine blk_drew ?_ | refine blk_alloc ?_ _)); refine blk_far ?_ NB281_293.out _; (with_reducible repeat (first | refine blk_drewN ?_ _ | refine blk_drew ?_ | refine blk_alloc ?_ _)); refine blk_far ?_ NB281_293.out _; (with_reducible repeat (first | refine blk_drewN ?_ _ | refine blk_drew ?_ | refine blk_alloc ?_ _)); refine blk_far ?_ NB281_293.out _; (with_reducible repeat (first | refine blk_drewN ?_ _ | refine blk_drew ?_ | refine blk_alloc ?_ _)); refine blk_far ?_ NB281_293.out _; (with_reducible repeat (first | refine blk_drewN ?_ _ | refine blk_drew ?_ | refine blk_alloc ?_ _)); refine blk_far ?_ NB281_293.out _; (with_reducible repeat (first | refine blk_drewN ?_ _ | refine blk_drew ?_ | refine blk_alloc ?_ _)); refine blk_far ?_ NB281_293.out _; (with_reducible repeat (first | refine blk_drewN ?_ _ | refine blk_drew ?_ | refine blk_alloc ?_ _)); exact BK281.out) hb); have n3_ := Aside0.mk (blk_below (g := gb293) (o := .cells #[.int .i64 t282, .string t283, .string t284, .int .i64 t285, .string t286, .int .i64 t287, .bool t288, .int .i64 t289, .int .i64 t290, .int .i64 t291] 27 (0, 0)) (by (with_reducible repeat (first | refine blk_drewN ?_ _ | refine blk_drew ?_ | refine blk_alloc ?_ _)); refine blk_put (cs := #[.int .i64 t282, .string t283, .string t284, .int .i64 t285, .string t286, .int .i64 t287, .bool t288, .int .i64 t289, .int .i64 t290, .int .i64 0]) ?_ 9 _ rfl; (with_reducible repeat (first | refine blk_drewN ?_ _ | refine blk_drew ?_ | refine blk_alloc ?_ _)); refine blk_put (cs := #[.int .i64 t282, .string t283, .string t284, .int .i64 t285, .string t286, .int .i64 t287, .bool t288, .int .i64 t289, .int .i64 0, .int .i64 0]) ?_ 8 _ rfl; (with_reducible repeat (first | refine blk_drewN ?_ _ | refine blk_drew ?_ | refine blk_alloc ?_ _)); refine blk_put (cs := #[.int .i64 t282, .string t283, .string t284, .int .i64 t285, .string t286, .int .i64 t287, .bool t288, .int .i64 0, .int .i64 0, .int .i64 0]) ?_ 7 _ rfl; (with_reducible repeat (first | refine blk_drewN ?_ _ | refine blk_drew ?_ | refine blk_alloc ?_ _)); refine blk_put (cs := #[.int .i64 t282, .string t283, .string t284, .int .i64 t285, .string t286, .int .i64 t287, .bool false, .int .i64 0, .int .i64 0, .int .i64 0]) ?_ 6 _ rfl; (with_reducible repeat (first | refine blk_drewN ?_ _ | refine blk_drew ?_ | refine blk_alloc ?_ _)); refine blk_put (cs := #[.int .i64 t282, .string t283, .string t284, .int .i64 t285, .string t286, .int .i64 0, .bool false, .int .i64 0, .int .i64 0, .int .i64 0]) ?_ 5 _ rfl; (with_reducible repeat (first | refine blk_drewN ?_ _ | refine blk_drew ?_ | refine blk_alloc ?_ _)); refine blk_put (cs := #[.int .i64 t282, .string t283, .string t284, .int .i64 t285, .string (⟨#[]⟩ : ByteArray), .int .i64 0, .bool false, .int .i64 0, .int .i64 0, .int .i64 0]) ?_ 4 _ rfl; (with_reducible repeat (first | refine blk_drewN ?_ _ | refine blk_drew ?_ | refine blk_alloc ?_ _)); refine blk_put (cs := #[.int .i64 t282, .string t283, .string t284, .int .i64 0, .string (⟨#[]⟩ : ByteArray), .int .i64 0, .bool false, .int .i64 0, .int .i64 0, .int .i64 0]) ?_ 3 _ rfl; (with_reducible repeat (first | refine blk_drewN ?_ _ | refine blk_drew ?_ | refine blk_alloc ?_ _)); refine blk_put (cs := #[.int .i64 t282, .string t283, .string (⟨#[]⟩ : ByteArray), .int .i64 0, .string (⟨#[]⟩ : ByteArray), .int .i64 0, .bool false, .int .i64 0, .int .i64 0, .int .i64 0]) ?_ 2 _ rfl; (with_reducible repeat (first | refine blk_drewN ?_ _ | refine blk_drew ?_ | refine blk_alloc ?_ _)); refine blk_put (cs := #[.int .i64 t282, .string (⟨#[]⟩ : ByteArray), .string (⟨#[]⟩ : ByteArray), .int .i64 0, .string (⟨#[]⟩ : ByteArray), .int .i64 0, .bool false, .int .i64 0, .int .i64 0, .int .i64 0]) ?_ 1 _ rfl; (with_reducible repeat (first | refine blk_drewN ?_ _ | refine blk_drew ?_ | refine blk_alloc ?_ _)); refine blk_put (cs := #[.int .i64 0, .string (⟨#[]⟩ : ByteArray), .string (⟨#[]⟩ : ByteArray), .int .i64 0, .string (⟨#[]⟩ : ByteArray), .int .i64 0, .bool false, .int .i64 0, .int .i64 0, .int .i64 0]) ?_ 0 _ rfl; (with_reducible repeat (first | refine blk_drewN ?_ _ | refine blk_drew ?_ | refine blk_alloc ?_ _)); exact BK293.out) hb); have n4_ := Aside0.mk (below_step (by repeat (first | (with_reducible first | exact HB.out | apply below_alloc | apply pw_below_drewN | apply below_drew1 | refine below_set ?_ GE257.out | refine below_set ?_ GE269.out | refine below_set ?_ GE281.out | refine below_set ?_ GE293.out) | exact HB.out)) hb); clear BK257; clear BK269; clear BK281; clear BK293; clear HB; have BK257 := n0_; have BK269 := n1_; have BK281 := n2_; have BK293 := n3_; have HB := n4_; clear n0_ n1_ n2_ n3_ n4_; (try clear hb); (try clear hb2); (try clear hk); (try clear hi)) | (go_at_call 21; (with_reducible refine (order_Changes.calls 3 true _ A14.out).mono ?_); rintro e w' ⟨rfl, ⟨nd, rfl⟩⟩) | (go_at_call 18; (with_reducible refine (order_Verbs.calls  t296 _ A16.out).mono ?_); rintro e w37 ⟨v297, rfl, ho0, hb⟩; have n0_ := Aside0.mk (Kd.R_lower ho0 (below_size (by repeat (first | (with_reducible first | exact HB.out | apply below_alloc | apply pw_below_drewN | apply below_drew1 | refine below_set ?_ GE257.out | refine below_set ?_ GE269.out | refine below_set ?_ GE281.out | refine below_set ?_ GE293.out) | exact HB.out)))); have n1_ := Aside0.mk (blk_below (g := gb257) (o := .cells #[.int .i64 t246, .string t247, .string t248, .int .i64 t249, .string t250, .int .i64 t251, .bool t252, .int .i64 t253, .int .i64 t254, .int .i64 t255] 27 (0, 0)) (by (with_reducible repeat (first | refine blk_drewN ?_ _ | refine blk_drew ?_ | refine blk_alloc ?_ _)); exact BK257.out) hb); have n2_ := Aside0.mk (blk_below (g := gb269) (o := .cells #[.int .i64 t258, .string t259, .string t260, .int .i64 t261, .string t262, .int .i64 t263, .bool t264, .int .i64 t265, .int .i64 t266, .int .i64 t267] 27 (0, 0)) (by (with_reducible repeat (first | refine blk_drewN ?_ _ | refine blk_drew ?_ | refine blk_alloc ?_ _)); exact BK269.out) hb); have n3_ := Aside0.mk (blk_below (g := gb281) (o := .cells #[.int .i64 t270, .string t271, .string t272, .int .i64 t273, .string t274, .int .i64 t275, .bool t276, .int .i64 t277, .int .i64 t278, .int .i64 t279] 27 (0, 0)) (by (with_reducible repeat (first | refine blk_drewN ?_ _ | refine blk_drew ?_ | refine blk_alloc ?_ _)); exact BK281.out) hb); have n4_ := Aside0.mk (blk_below (g := gb293) (o := .cells #[.int .i64 t282, .string t283, .string t284, .int .i64 t285, .string t286, .int .i64 t287, .bool t288, .int .i64 t289, .int .i64 t290, .int .i64 t291] 27 (0, 0)) (by (with_reducible repeat (first | refine blk_drewN ?_ _ | refine blk_drew ?_ | refine blk_alloc ?_ _)); exact BK293.out) hb); have n5_ := Aside0.mk (below_step (by repeat (first | (with_reducible first | exact HB.out | apply below_alloc | apply pw_below_drewN | apply below_drew1 | refine below_set ?_ GE257.out | refine below_set ?_ GE269.out | refine below_set ?_ GE281.out | refine below_set ?_ GE293.out) | exact HB.out)) hb); clear BK257; clear BK269; clear BK281; clear BK293; clear HB; have HO298 := n0_; have BK257 := n1_; have BK269 := n2_; have BK281 := n3_; have BK293 := n4_; have HB := n5_; clear n0_ n1_ n2_ n3_ n4_ n5_; (try clear hb); (try clear hb2); (try clear hk); (try clear hi); (try clear ho0); obtain ⟨Ao38, co38, eo38⟩ := Kd.R_slice HO298.out; subst eo38))
          go_ret
          exact ⟨by first | rfl | (simp [errW_none, errW_some] <;> rfl) | (simp [*, errW_none, errW_some] <;> rfl), by repeat (first | (with_reducible first | exact HB.out | apply below_alloc | apply pw_below_drewN | apply below_drew1 | refine below_set ?_ GE257.out | refine below_set ?_ GE269.out | refine below_set ?_ GE281.out | refine below_set ?_ GE293.out) | exact HB.out)⟩
         ·replace c15 := Bool.eq_false_iff.mpr c15
          subst c15
          have H1 : (some false) = some r := by rw [if_neg (show ¬ (false = true) by decide)] at H; exact H
          clear H
          have H := H1
          clear H1
          exact absurd ((Option.some.inj H).trans hr) Bool.false_ne_true
        ·rw [if_neg c13] at H
         have c13b0 : (t292 == 160) = false := beq_eq_false_iff_ne.mpr c13
         have c13b1 : (t292 != 160) = true := bne_iff_ne.mpr c13
         exact absurd ((Option.some.inj H).trans hr) Bool.false_ne_true
       ·rw [if_neg c12] at H
        have c12b0 : (t280 == 162) = false := beq_eq_false_iff_ne.mpr c12
        have c12b1 : (t280 != 162) = true := bne_iff_ne.mpr c12
        exact absurd ((Option.some.inj H).trans hr) Bool.false_ne_true
      ·rw [if_neg c11] at H
       have c11b0 : (t268 == 161) = false := beq_eq_false_iff_ne.mpr c11
       have c11b1 : (t268 != 161) = true := bne_iff_ne.mpr c11
       exact absurd ((Option.some.inj H).trans hr) Bool.false_ne_true
     ·rw [if_neg c10] at H
      have c10b0 : (t294.toList == ([116, 111, 120, 105, 99, 32, 97, 100, 100, 32, 112, 32, 108, 97, 103, 32, 108, 97, 116, 101, 110, 99, 121, 32, 117, 112, 32, 49, 48, 48, 32, 53, 32, 49] : List UInt8)) = false := beq_eq_false_iff_ne.mpr c10
      have c10b1 : (t294.toList != ([116, 111, 120, 105, 99, 32, 97, 100, 100, 32, 112, 32, 108, 97, 103, 32, 108, 97, 116, 101, 110, 99, 121, 32, 117, 112, 32, 49, 48, 48, 32, 53, 32, 49] : List UInt8)) = true := bne_iff_ne.mpr c10
      exact absurd ((Option.some.inj H).trans hr) Bool.false_ne_true
    ·rw [if_neg c8] at H
     have c8b0 : (t254 == 5) = false := beq_eq_false_iff_ne.mpr c8
     have c8b1 : (t254 != 5) = true := bne_iff_ne.mpr c8
     exact absurd ((Option.some.inj H).trans hr) Bool.false_ne_true
   ·rw [if_neg c7] at H
    have c7b0 : (t247.toList == ([112] : List UInt8)) = false := beq_eq_false_iff_ne.mpr c7
    have c7b1 : (t247.toList != ([112] : List UInt8)) = true := bne_iff_ne.mpr c7
    exact absurd ((Option.some.inj H).trans hr) Bool.false_ne_true
  ·rw [if_neg c6] at H
   have c6b0 : (t246 == 5) = false := beq_eq_false_iff_ne.mpr c6
   have c6b1 : (t246 != 5) = true := bne_iff_ne.mpr c6
   exact absurd ((Option.some.inj H).trans hr) Bool.false_ne_true
 ·rw [if_neg c5] at H
  have c5b0 : (t256 == 0) = false := beq_eq_false_iff_ne.mpr c5
  have c5b1 : (t256 != 0) = true := bne_iff_ne.mpr c5
  exact absurd ((Option.some.inj H).trans hr) Bool.false_ne_true
set_option maxRecDepth 100000 in
theorem chicanelaw16_alive.at100 : chicanelaw16_alive.f 100 = some true := by kernel_rfl
theorem chicanelaw16_alive.only (k : Nat) (r : Bool) (h : chicanelaw16_alive.f k = some r) : r = true := by
 have h1 : chicanelaw16_alive.f (k + 100) = some r := by
  generalize 100 = m
  induction m with
  | zero => exact h
  | succ m ih => exact chicanelaw16_alive.mono _ _ ih
 have h2 : chicanelaw16_alive.f (100 + k) = some true := by
  clear h h1
  induction k with
  | zero => exact chicanelaw16_alive.at100
  | succ k ih => exact chicanelaw16_alive.mono _ _ ih
 rw [Nat.add_comm, h2] at h1
 exact (Option.some.inj h1).symm
theorem chicanelaw16_alive.calls (k : Nat) (r : Bool) (w : World) (hT : Aside0 (Ext.Tab w)) (h : chicanelaw16_alive.f k = some r) :
  Calls Tryz.prog 8 #[] w fun e w' => e = .returned (.bool r) ∧ Below w.heap.size w w' :=
 chicanelaw16_alive.calls_t k r w hT (chicanelaw16_alive.only k r h) h
end Go.Proofs.YtlglbpjccpdloaaGreatDoor.POrdB
namespace Go.Proofs.YtlglbpjccpdloaaGreatDoor.POrdB
open Go.Proofs.YtlglbpjccpdloaaGreatDoor.Ext Go.Proofs.YtlglbpjccpdloaaGreatDoor.ToxZ Go.Proofs.YtlglbpjccpdloaaGreatDoor.PWrdA Go.RowKit Go.Proofs.YtlglbpjccpdloaaGreatDoorW.PrintWords Go.Proofs.YtlglbpjccpdloaaGreatDoorW.PrintLast Go.Proofs.YtlglbpjccpdloaaGreatDoorW.PrintMore
attribute [local go_sem] max2_int min2_int max_two min_two max_three min_three max_four min_four   -- for this text's walks alone
set_option linter.unusedVariables false
set_option linter.unusedSimpArgs false
def chicanelaw16_OrderWrites.f (k : Nat) (a0_0 : Int) (a0_1 : ByteArray) (a0_2 : ByteArray) (a0_3 : Int) (a0_4 : ByteArray) (a0_5 : Int) (a0_6 : Bool) (a0_7 : Int) (a0_8 : Int) (a0_9 : Int) : Option (Bool) := if (wrap64 ((wrap64 ((a0_1.size : Int) + (a0_2.size : Int))) + (a0_4.size : Int))) > 1000 then ((chicanelaw16_alive.f k).bind fun t327 => (some t327)) else ((chicanelaw16_alive.f k).bind fun t328 => (if t328 = true then ((order_Words.f k a0_0 a0_1 a0_2 a0_3 a0_4 a0_5 a0_6 a0_7 a0_8 a0_9).bind fun t329 => ((chicaneref16_Words.f k a0_0 a0_1 a0_2 a0_3 a0_4 a0_5 a0_6 a0_7 a0_8 a0_9).bind fun t332 => ((chicaneref15_Same.f k t329 t332).bind fun t335 => (if t335 = true then ((order_Text.f k a0_0 a0_1 a0_2 a0_3 a0_4 a0_5 a0_6 a0_7 a0_8 a0_9).bind fun t336 => ((chicaneref16_Text.f k a0_0 a0_1 a0_2 a0_3 a0_4 a0_5 a0_6 a0_7 a0_8 a0_9).bind fun t337 => (some (t336.toList == t337.toList)))) else (some false))))) else (some false)))
theorem chicanelaw16_OrderWrites.mono : ∀ a0 a1 a2 a3 a4 a5 a6 a7 a8 a9 k, LeO (chicanelaw16_OrderWrites.f k a0 a1 a2 a3 a4 a5 a6 a7 a8 a9) (chicanelaw16_OrderWrites.f (k + 1) a0 a1 a2 a3 a4 a5 a6 a7 a8 a9) := by
 intro a0 a1 a2 a3 a4 a5 a6 a7 a8 a9 k
 unfold chicanelaw16_OrderWrites.f
 repeat' first
   | (with_reducible exact chicanelaw16_alive.mono _)
   | (with_reducible exact chicaneref15_Same.mono _ _ _)
   | (with_reducible exact chicaneref16_Text.mono _ _ _ _ _ _ _ _ _ _ _)
   | (with_reducible exact chicaneref16_Words.mono _ _ _ _ _ _ _ _ _ _ _)
   | (with_reducible exact order_Text.mono _ _ _ _ _ _ _ _ _ _ _)
   | (with_reducible exact order_Words.mono _ _ _ _ _ _ _ _ _ _ _)
   | (with_reducible exact LeO.refl _)
   | (with_reducible exact LeO.none _)
   | (with_reducible refine LeO.ite ?_ ?_)
   | (with_reducible refine LeO.bind ?_ (fun _ => ?_))
   | exact chicanelaw16_alive.mono _
   | exact chicaneref15_Same.mono _ _ _
   | exact chicaneref16_Text.mono _ _ _ _ _ _ _ _ _ _ _
   | exact chicaneref16_Words.mono _ _ _ _ _ _ _ _ _ _ _
   | exact order_Text.mono _ _ _ _ _ _ _ _ _ _ _
   | exact order_Words.mono _ _ _ _ _ _ _ _ _ _ _
   | exact LeO.none _
   | refine LeO.ite ?_ ?_
   | refine LeO.bind ?_ (fun _ => ?_)
end Go.Proofs.YtlglbpjccpdloaaGreatDoor.POrdB
