/- Gathered by a program of this session (shake.py): what the claim's theorem needs. -/
import Derived.Test.YtlglbpjccpdloaaSO1
import Derived.Test.YtlglbpjccpdloaaSO3
import Derived.Test.YtlglbpjccpdloaaSO4
import Derived.Test.YtlglbpjccpdloaaSO5
import Derived.Test.YtlglbpjccpdloaaSO6
import Derived.Test.YtlglbpjccpdloaaSO7
set_option linter.unusedVariables false
set_option linter.unusedSimpArgs false
namespace Go.Proofs.Ytlglbpjccpdloaa.Ext
end Go.Proofs.Ytlglbpjccpdloaa.Ext
namespace Go.Proofs.Ytlglbpjccpdloaa.PNamA
end Go.Proofs.Ytlglbpjccpdloaa.PNamA
namespace Go.Proofs.Ytlglbpjccpdloaa.Tox
end Go.Proofs.Ytlglbpjccpdloaa.Tox
namespace Go.Proofs.Ytlglbpjccpdloaa.ToxZ
end Go.Proofs.Ytlglbpjccpdloaa.ToxZ
namespace Go.Proofs.YtlglbpjccpdloaaW.PrintLast
end Go.Proofs.YtlglbpjccpdloaaW.PrintLast
namespace Go.Proofs.YtlglbpjccpdloaaW.PrintMore
end Go.Proofs.YtlglbpjccpdloaaW.PrintMore
namespace Go.Proofs.YtlglbpjccpdloaaW.PrintWords
end Go.Proofs.YtlglbpjccpdloaaW.PrintWords
namespace Go.Proofs.Ytlglbpjccpdloaa.PNamA
open Go.Proofs.Ytlglbpjccpdloaa.Ext Go.Proofs.Ytlglbpjccpdloaa.ToxZ Go.RowKit Go.Proofs.YtlglbpjccpdloaaW.PrintWords Go.Proofs.YtlglbpjccpdloaaW.PrintLast Go.Proofs.YtlglbpjccpdloaaW.PrintMore
attribute [local go_sem] max2_int min2_int max_two min_two max_three min_three max_four min_four   -- for this text's walks alone
set_option linter.unusedVariables false
set_option linter.unusedSimpArgs false
def chicanelaw14_kind.f (a0_0 : Int) (a0_1 : Int) (a0_2 : ByteArray) (a0_3 : ByteArray) (a0_4 : Bool) (a0_5 : ByteArray) (a0_6 : Int) (a0_7 : Bool) (a0_8 : Int) (a0_9 : Int) (a0_10 : Int) : Option (Bool) := if a0_0 ≥ 0 then (if a0_0 ≤ 6 then (if (a0_2.size : Int) ≤ 100 then (if (a0_5.size : Int) ≤ 100 then (some (decide ((a0_3.size : Int) ≤ 100))) else (some false)) else (some false)) else (some false)) else (some false)
set_option maxHeartbeats 8000000 in
set_option maxRecDepth 100000 in
theorem chicanelaw14_kind.calls (a0_0 : Int) (a0_1 : Int) (a0_2 : ByteArray) (a0_3 : ByteArray) (a0_4 : Bool) (a0_5 : ByteArray) (a0_6 : Int) (a0_7 : Bool) (a0_8 : Int) (a0_9 : Int) (a0_10 : Int) (r : Bool) (w : World) (h : chicanelaw14_kind.f a0_0 a0_1 a0_2 a0_3 a0_4 a0_5 a0_6 a0_7 a0_8 a0_9 a0_10 = some r) :
  Calls Try.prog 23 #[.agg #[.int .i64 a0_0, .int .i64 a0_1, .string a0_2, .string a0_3, .bool a0_4, .string a0_5, .int .i64 a0_6, .bool a0_7, .int .i64 a0_8, .int .i64 a0_9, .int .i64 a0_10]] w fun e w' => e = .returned (.bool r) ∧ Below w.heap.size w w' := by
 have hu48 := Try.underlying48
 have HB := Aside0.mk (Below.refl w.heap.size w)
 have H : (if a0_0 ≥ 0 then (if a0_0 ≤ 6 then (if (a0_2.size : Int) ≤ 100 then (if (a0_5.size : Int) ≤ 100 then (some (decide ((a0_3.size : Int) ≤ 100))) else (some false)) else (some false)) else (some false)) else (some false)) = some r := h
 clear h
 by_cases c2 : a0_0 ≥ 0
 ·rw [if_pos c2] at H
  have c2b0 : decide (0 ≤ a0_0) = true := decide_eq_true c2
  clear c2
  by_cases c3 : a0_0 ≤ 6
  ·rw [if_pos c3] at H
   have c3b0 : decide (a0_0 ≤ 6) = true := decide_eq_true c3
   clear c3
   by_cases c4 : (a0_2.size : Int) ≤ 100
   ·rw [if_pos c4] at H
    have c4b0 : decide ((a0_2.size : Int) ≤ 100) = true := decide_eq_true c4
    have c4b1 : decide (a0_2.size ≤ 100) = true := decide_eq_true (by omega)
    clear c4
    by_cases c5 : (a0_5.size : Int) ≤ 100
    ·rw [if_pos c5] at H
     have c5b0 : decide ((a0_5.size : Int) ≤ 100) = true := decide_eq_true c5
     have c5b1 : decide (a0_5.size ≤ 100) = true := decide_eq_true (by omega)
     clear c5
     obtain rfl := Option.some.inj H
     go_enter Try.func23, Try.ntmps23
     go_wp2_with (first | ((with_reducible refine gate_dst (N := 1) rfl ?_); (try (refine gate_guard (by rfl) ?_; dsimp only)); refine box_event ?hg (N := 1) ?hd (cs := #[.int .i64 a0_0, .int .i64 a0_1, .string a0_2, .string a0_3, .bool a0_4, .string a0_5, .int .i64 a0_6, .bool a0_7, .int .i64 a0_8, .int .i64 a0_9, .int .i64 a0_10]) (t := 48) ?hr ?_; (case hd => rfl); (case hg => rfl); (case hr => first | (go_simp; done) | (go_simp; rfl)); intro gb294 hg w6 hbox hb; have n0_ := Aside0.mk (below_step (by repeat (first | (with_reducible first | exact HB.out | apply below_alloc | apply pw_below_drewN | apply below_drew1) | exact HB.out)) hb); have n1_ := Aside0.mk (hbox); have n2_ := Aside0.mk ((by rw [hg]; exact (below_size (by repeat (first | (with_reducible first | exact HB.out | apply below_alloc | apply pw_below_drewN | apply below_drew1) | exact HB.out))) : w.heap.size ≤ gb294)); have n3_ := Aside0.mk ((by rw [hg]; exact (below_size (by repeat (first | (with_reducible first | exact HB.out | apply below_alloc | apply pw_below_drewN | apply below_drew1) | exact HB.out))) : w.heap.size ≤ gb294)); clear HB; have HB := n0_; have BK294 := n1_; have GW294 := n2_; have GE294 := n3_; clear n0_ n1_ n2_ n3_; clear hb hbox hg; have hcz7_0 : w6.cell? ⟨gb294, 0, none⟩ = some (.int .i64 a0_0) := (blk_cell BK294.out 0).trans rfl; have hcz7_1 : w6.cell? ⟨gb294, 1, none⟩ = some (.int .i64 a0_1) := (blk_cell BK294.out 1).trans rfl; have hcz7_2 : w6.cell? ⟨gb294, 2, none⟩ = some (.string a0_2) := (blk_cell BK294.out 2).trans rfl; have hcz7_3 : w6.cell? ⟨gb294, 3, none⟩ = some (.string a0_3) := (blk_cell BK294.out 3).trans rfl; have hcz7_4 : w6.cell? ⟨gb294, 4, none⟩ = some (.bool a0_4) := (blk_cell BK294.out 4).trans rfl; have hcz7_5 : w6.cell? ⟨gb294, 5, none⟩ = some (.string a0_5) := (blk_cell BK294.out 5).trans rfl; have hcz7_6 : w6.cell? ⟨gb294, 6, none⟩ = some (.int .i64 a0_6) := (blk_cell BK294.out 6).trans rfl; have hcz7_7 : w6.cell? ⟨gb294, 7, none⟩ = some (.bool a0_7) := (blk_cell BK294.out 7).trans rfl; have hcz7_8 : w6.cell? ⟨gb294, 8, none⟩ = some (.int .i64 a0_8) := (blk_cell BK294.out 8).trans rfl; have hcz7_9 : w6.cell? ⟨gb294, 9, none⟩ = some (.int .i64 a0_9) := (blk_cell BK294.out 9).trans rfl; have hcz7_10 : w6.cell? ⟨gb294, 10, none⟩ = some (.int .i64 a0_10) := (blk_cell BK294.out 10).trans rfl; have hfz7_0 := blk_frozen BK294.out 0; have hfz7_1 := blk_frozen BK294.out 1; have hfz7_2 := blk_frozen BK294.out 2; have hfz7_3 := blk_frozen BK294.out 3; have hfz7_4 := blk_frozen BK294.out 4; have hfz7_5 := blk_frozen BK294.out 5; have hfz7_6 := blk_frozen BK294.out 6; have hfz7_7 := blk_frozen BK294.out 7; have hfz7_8 := blk_frozen BK294.out 8; have hfz7_9 := blk_frozen BK294.out 9; have hfz7_10 := blk_frozen BK294.out 10))
     go_ret
     exact ⟨by first | rfl | (simp [errW_none, errW_some] <;> rfl) | (simp [*, errW_none, errW_some] <;> rfl), by repeat (first | (with_reducible first | exact HB.out | apply below_alloc | apply pw_below_drewN | apply below_drew1 | refine below_set ?_ GE294.out) | exact HB.out)⟩
    ·rw [if_neg c5] at H
     have c5b0 : decide ((a0_5.size : Int) ≤ 100) = false := decide_eq_false c5
     have c5b1 : decide (a0_5.size ≤ 100) = false := decide_eq_false (by omega)
     clear c5
     obtain rfl := Option.some.inj H
     go_enter Try.func23, Try.ntmps23
     go_wp2_with (first | ((with_reducible refine gate_dst (N := 1) rfl ?_); (try (refine gate_guard (by rfl) ?_; dsimp only)); refine box_event ?hg (N := 1) ?hd (cs := #[.int .i64 a0_0, .int .i64 a0_1, .string a0_2, .string a0_3, .bool a0_4, .string a0_5, .int .i64 a0_6, .bool a0_7, .int .i64 a0_8, .int .i64 a0_9, .int .i64 a0_10]) (t := 48) ?hr ?_; (case hd => rfl); (case hg => rfl); (case hr => first | (go_simp; done) | (go_simp; rfl)); intro gb294 hg w8 hbox hb; have n0_ := Aside0.mk (below_step (by repeat (first | (with_reducible first | exact HB.out | apply below_alloc | apply pw_below_drewN | apply below_drew1) | exact HB.out)) hb); have n1_ := Aside0.mk (hbox); have n2_ := Aside0.mk ((by rw [hg]; exact (below_size (by repeat (first | (with_reducible first | exact HB.out | apply below_alloc | apply pw_below_drewN | apply below_drew1) | exact HB.out))) : w.heap.size ≤ gb294)); have n3_ := Aside0.mk ((by rw [hg]; exact (below_size (by repeat (first | (with_reducible first | exact HB.out | apply below_alloc | apply pw_below_drewN | apply below_drew1) | exact HB.out))) : w.heap.size ≤ gb294)); clear HB; have HB := n0_; have BK294 := n1_; have GW294 := n2_; have GE294 := n3_; clear n0_ n1_ n2_ n3_; clear hb hbox hg; have hcz9_0 : w8.cell? ⟨gb294, 0, none⟩ = some (.int .i64 a0_0) := (blk_cell BK294.out 0).trans rfl; have hcz9_1 : w8.cell? ⟨gb294, 1, none⟩ = some (.int .i64 a0_1) := (blk_cell BK294.out 1).trans rfl; have hcz9_2 : w8.cell? ⟨gb294, 2, none⟩ = some (.string a0_2) := (blk_cell BK294.out 2).trans rfl; have hcz9_3 : w8.cell? ⟨gb294, 3, none⟩ = some (.string a0_3) := (blk_cell BK294.out 3).trans rfl; have hcz9_4 : w8.cell? ⟨gb294, 4, none⟩ = some (.bool a0_4) := (blk_cell BK294.out 4).trans rfl; have hcz9_5 : w8.cell? ⟨gb294, 5, none⟩ = some (.string a0_5) := (blk_cell BK294.out 5).trans rfl; have hcz9_6 : w8.cell? ⟨gb294, 6, none⟩ = some (.int .i64 a0_6) := (blk_cell BK294.out 6).trans rfl; have hcz9_7 : w8.cell? ⟨gb294, 7, none⟩ = some (.bool a0_7) := (blk_cell BK294.out 7).trans rfl; have hcz9_8 : w8.cell? ⟨gb294, 8, none⟩ = some (.int .i64 a0_8) := (blk_cell BK294.out 8).trans rfl; have hcz9_9 : w8.cell? ⟨gb294, 9, none⟩ = some (.int .i64 a0_9) := (blk_cell BK294.out 9).trans rfl; have hcz9_10 : w8.cell? ⟨gb294, 10, none⟩ = some (.int .i64 a0_10) := (blk_cell BK294.out 10).trans rfl; have hfz9_0 := blk_frozen BK294.out 0; have hfz9_1 := blk_frozen BK294.out 1; have hfz9_2 := blk_frozen BK294.out 2; have hfz9_3 := blk_frozen BK294.out 3; have hfz9_4 := blk_frozen BK294.out 4; have hfz9_5 := blk_frozen BK294.out 5; have hfz9_6 := blk_frozen BK294.out 6; have hfz9_7 := blk_frozen BK294.out 7; have hfz9_8 := blk_frozen BK294.out 8; have hfz9_9 := blk_frozen BK294.out 9; have hfz9_10 := blk_frozen BK294.out 10))
     go_ret
     exact ⟨by first | rfl | (simp [errW_none, errW_some] <;> rfl) | (simp [*, errW_none, errW_some] <;> rfl), by repeat (first | (with_reducible first | exact HB.out | apply below_alloc | apply pw_below_drewN | apply below_drew1 | refine below_set ?_ GE294.out) | exact HB.out)⟩
   ·rw [if_neg c4] at H
    have c4b0 : decide ((a0_2.size : Int) ≤ 100) = false := decide_eq_false c4
    have c4b1 : decide (a0_2.size ≤ 100) = false := decide_eq_false (by omega)
    clear c4
    obtain rfl := Option.some.inj H
    go_enter Try.func23, Try.ntmps23
    go_wp2_with (first | ((with_reducible refine gate_dst (N := 1) rfl ?_); (try (refine gate_guard (by rfl) ?_; dsimp only)); refine box_event ?hg (N := 1) ?hd (cs := #[.int .i64 a0_0, .int .i64 a0_1, .string a0_2, .string a0_3, .bool a0_4, .string a0_5, .int .i64 a0_6, .bool a0_7, .int .i64 a0_8, .int .i64 a0_9, .int .i64 a0_10]) (t := 48) ?hr ?_; (case hd => rfl); (case hg => rfl); (case hr => first | (go_simp; done) | (go_simp; rfl)); intro gb294 hg w10 hbox hb; have n0_ := Aside0.mk (below_step (by repeat (first | (with_reducible first | exact HB.out | apply below_alloc | apply pw_below_drewN | apply below_drew1) | exact HB.out)) hb); have n1_ := Aside0.mk (hbox); have n2_ := Aside0.mk ((by rw [hg]; exact (below_size (by repeat (first | (with_reducible first | exact HB.out | apply below_alloc | apply pw_below_drewN | apply below_drew1) | exact HB.out))) : w.heap.size ≤ gb294)); have n3_ := Aside0.mk ((by rw [hg]; exact (below_size (by repeat (first | (with_reducible first | exact HB.out | apply below_alloc | apply pw_below_drewN | apply below_drew1) | exact HB.out))) : w.heap.size ≤ gb294)); clear HB; have HB := n0_; have BK294 := n1_; have GW294 := n2_; have GE294 := n3_; clear n0_ n1_ n2_ n3_; clear hb hbox hg; have hcz11_0 : w10.cell? ⟨gb294, 0, none⟩ = some (.int .i64 a0_0) := (blk_cell BK294.out 0).trans rfl; have hcz11_1 : w10.cell? ⟨gb294, 1, none⟩ = some (.int .i64 a0_1) := (blk_cell BK294.out 1).trans rfl; have hcz11_2 : w10.cell? ⟨gb294, 2, none⟩ = some (.string a0_2) := (blk_cell BK294.out 2).trans rfl; have hcz11_3 : w10.cell? ⟨gb294, 3, none⟩ = some (.string a0_3) := (blk_cell BK294.out 3).trans rfl; have hcz11_4 : w10.cell? ⟨gb294, 4, none⟩ = some (.bool a0_4) := (blk_cell BK294.out 4).trans rfl; have hcz11_5 : w10.cell? ⟨gb294, 5, none⟩ = some (.string a0_5) := (blk_cell BK294.out 5).trans rfl; have hcz11_6 : w10.cell? ⟨gb294, 6, none⟩ = some (.int .i64 a0_6) := (blk_cell BK294.out 6).trans rfl; have hcz11_7 : w10.cell? ⟨gb294, 7, none⟩ = some (.bool a0_7) := (blk_cell BK294.out 7).trans rfl; have hcz11_8 : w10.cell? ⟨gb294, 8, none⟩ = some (.int .i64 a0_8) := (blk_cell BK294.out 8).trans rfl; have hcz11_9 : w10.cell? ⟨gb294, 9, none⟩ = some (.int .i64 a0_9) := (blk_cell BK294.out 9).trans rfl; have hcz11_10 : w10.cell? ⟨gb294, 10, none⟩ = some (.int .i64 a0_10) := (blk_cell BK294.out 10).trans rfl; have hfz11_0 := blk_frozen BK294.out 0; have hfz11_1 := blk_frozen BK294.out 1; have hfz11_2 := blk_frozen BK294.out 2; have hfz11_3 := blk_frozen BK294.out 3; have hfz11_4 := blk_frozen BK294.out 4; have hfz11_5 := blk_frozen BK294.out 5; have hfz11_6 := blk_frozen BK294.out 6; have hfz11_7 := blk_frozen BK294.out 7; have hfz11_8 := blk_frozen BK294.out 8; have hfz11_9 := blk_frozen BK294.out 9; have hfz11_10 := blk_frozen BK294.out 10))
    go_ret
    exact ⟨by first | rfl | (simp [errW_none, errW_some] <;> rfl) | (simp [*, errW_none, errW_some] <;> rfl), by repeat (first | (with_reducible first | exact HB.out | apply below_alloc | apply pw_below_drewN | apply below_drew1 | refine below_set ?_ GE294.out) | exact HB.out)⟩
  ·rw [if_neg c3] at H
   have c3b0 : decide (a0_0 ≤ 6) = false := decide_eq_false c3
   clear c3
   obtain rfl := Option.some.inj H
   go_enter Try.func23, Try.ntmps23
   go_wp2_with (first | ((with_reducible refine gate_dst (N := 1) rfl ?_); (try (refine gate_guard (by rfl) ?_; dsimp only)); refine box_event ?hg (N := 1) ?hd (cs := #[.int .i64 a0_0, .int .i64 a0_1, .string a0_2, .string a0_3, .bool a0_4, .string a0_5, .int .i64 a0_6, .bool a0_7, .int .i64 a0_8, .int .i64 a0_9, .int .i64 a0_10]) (t := 48) ?hr ?_; (case hd => rfl); (case hg => rfl); (case hr => first | (go_simp; done) | (go_simp; rfl)); intro gb294 hg w12 hbox hb; have n0_ := Aside0.mk (below_step (by repeat (first | (with_reducible first | exact HB.out | apply below_alloc | apply pw_below_drewN | apply below_drew1) | exact HB.out)) hb); have n1_ := Aside0.mk (hbox); have n2_ := Aside0.mk ((by rw [hg]; exact (below_size (by repeat (first | (with_reducible first | exact HB.out | apply below_alloc | apply pw_below_drewN | apply below_drew1) | exact HB.out))) : w.heap.size ≤ gb294)); have n3_ := Aside0.mk ((by rw [hg]; exact (below_size (by repeat (first | (with_reducible first | exact HB.out | apply below_alloc | apply pw_below_drewN | apply below_drew1) | exact HB.out))) : w.heap.size ≤ gb294)); clear HB; have HB := n0_; have BK294 := n1_; have GW294 := n2_; have GE294 := n3_; clear n0_ n1_ n2_ n3_; clear hb hbox hg; have hcz13_0 : w12.cell? ⟨gb294, 0, none⟩ = some (.int .i64 a0_0) := (blk_cell BK294.out 0).trans rfl; have hcz13_1 : w12.cell? ⟨gb294, 1, none⟩ = some (.int .i64 a0_1) := (blk_cell BK294.out 1).trans rfl; have hcz13_2 : w12.cell? ⟨gb294, 2, none⟩ = some (.string a0_2) := (blk_cell BK294.out 2).trans rfl; have hcz13_3 : w12.cell? ⟨gb294, 3, none⟩ = some (.string a0_3) := (blk_cell BK294.out 3).trans rfl; have hcz13_4 : w12.cell? ⟨gb294, 4, none⟩ = some (.bool a0_4) := (blk_cell BK294.out 4).trans rfl; have hcz13_5 : w12.cell? ⟨gb294, 5, none⟩ = some (.string a0_5) := (blk_cell BK294.out 5).trans rfl; have hcz13_6 : w12.cell? ⟨gb294, 6, none⟩ = some (.int .i64 a0_6) := (blk_cell BK294.out 6).trans rfl; have hcz13_7 : w12.cell? ⟨gb294, 7, none⟩ = some (.bool a0_7) := (blk_cell BK294.out 7).trans rfl; have hcz13_8 : w12.cell? ⟨gb294, 8, none⟩ = some (.int .i64 a0_8) := (blk_cell BK294.out 8).trans rfl; have hcz13_9 : w12.cell? ⟨gb294, 9, none⟩ = some (.int .i64 a0_9) := (blk_cell BK294.out 9).trans rfl; have hcz13_10 : w12.cell? ⟨gb294, 10, none⟩ = some (.int .i64 a0_10) := (blk_cell BK294.out 10).trans rfl; have hfz13_0 := blk_frozen BK294.out 0; have hfz13_1 := blk_frozen BK294.out 1; have hfz13_2 := blk_frozen BK294.out 2; have hfz13_3 := blk_frozen BK294.out 3; have hfz13_4 := blk_frozen BK294.out 4; have hfz13_5 := blk_frozen BK294.out 5; have hfz13_6 := blk_frozen BK294.out 6; have hfz13_7 := blk_frozen BK294.out 7; have hfz13_8 := blk_frozen BK294.out 8; have hfz13_9 := blk_frozen BK294.out 9; have hfz13_10 := blk_frozen BK294.out 10))
   go_ret
   exact ⟨by first | rfl | (simp [errW_none, errW_some] <;> rfl) | (simp [*, errW_none, errW_some] <;> rfl), by repeat (first | (with_reducible first | exact HB.out | apply below_alloc | apply pw_below_drewN | apply below_drew1 | refine below_set ?_ GE294.out) | exact HB.out)⟩
 ·rw [if_neg c2] at H
  have c2b0 : decide (0 ≤ a0_0) = false := decide_eq_false c2
  clear c2
  obtain rfl := Option.some.inj H
  go_enter Try.func23, Try.ntmps23
  go_wp2_with (first | ((with_reducible refine gate_dst (N := 1) rfl ?_); (try (refine gate_guard (by rfl) ?_; dsimp only)); refine box_event ?hg (N := 1) ?hd (cs := #[.int .i64 a0_0, .int .i64 a0_1, .string a0_2, .string a0_3, .bool a0_4, .string a0_5, .int .i64 a0_6, .bool a0_7, .int .i64 a0_8, .int .i64 a0_9, .int .i64 a0_10]) (t := 48) ?hr ?_; (case hd => rfl); (case hg => rfl); (case hr => first | (go_simp; done) | (go_simp; rfl)); intro gb294 hg w14 hbox hb; have n0_ := Aside0.mk (below_step (by repeat (first | (with_reducible first | exact HB.out | apply below_alloc | apply pw_below_drewN | apply below_drew1) | exact HB.out)) hb); have n1_ := Aside0.mk (hbox); have n2_ := Aside0.mk ((by rw [hg]; exact (below_size (by repeat (first | (with_reducible first | exact HB.out | apply below_alloc | apply pw_below_drewN | apply below_drew1) | exact HB.out))) : w.heap.size ≤ gb294)); have n3_ := Aside0.mk ((by rw [hg]; exact (below_size (by repeat (first | (with_reducible first | exact HB.out | apply below_alloc | apply pw_below_drewN | apply below_drew1) | exact HB.out))) : w.heap.size ≤ gb294)); clear HB; have HB := n0_; have BK294 := n1_; have GW294 := n2_; have GE294 := n3_; clear n0_ n1_ n2_ n3_; clear hb hbox hg; have hcz15_0 : w14.cell? ⟨gb294, 0, none⟩ = some (.int .i64 a0_0) := (blk_cell BK294.out 0).trans rfl; have hcz15_1 : w14.cell? ⟨gb294, 1, none⟩ = some (.int .i64 a0_1) := (blk_cell BK294.out 1).trans rfl; have hcz15_2 : w14.cell? ⟨gb294, 2, none⟩ = some (.string a0_2) := (blk_cell BK294.out 2).trans rfl; have hcz15_3 : w14.cell? ⟨gb294, 3, none⟩ = some (.string a0_3) := (blk_cell BK294.out 3).trans rfl; have hcz15_4 : w14.cell? ⟨gb294, 4, none⟩ = some (.bool a0_4) := (blk_cell BK294.out 4).trans rfl; have hcz15_5 : w14.cell? ⟨gb294, 5, none⟩ = some (.string a0_5) := (blk_cell BK294.out 5).trans rfl; have hcz15_6 : w14.cell? ⟨gb294, 6, none⟩ = some (.int .i64 a0_6) := (blk_cell BK294.out 6).trans rfl; have hcz15_7 : w14.cell? ⟨gb294, 7, none⟩ = some (.bool a0_7) := (blk_cell BK294.out 7).trans rfl; have hcz15_8 : w14.cell? ⟨gb294, 8, none⟩ = some (.int .i64 a0_8) := (blk_cell BK294.out 8).trans rfl; have hcz15_9 : w14.cell? ⟨gb294, 9, none⟩ = some (.int .i64 a0_9) := (blk_cell BK294.out 9).trans rfl; have hcz15_10 : w14.cell? ⟨gb294, 10, none⟩ = some (.int .i64 a0_10) := (blk_cell BK294.out 10).trans rfl; have hfz15_0 := blk_frozen BK294.out 0; have hfz15_1 := blk_frozen BK294.out 1; have hfz15_2 := blk_frozen BK294.out 2; have hfz15_3 := blk_frozen BK294.out 3; have hfz15_4 := blk_frozen BK294.out 4; have hfz15_5 := blk_frozen BK294.out 5; have hfz15_6 := blk_frozen BK294.out 6; have hfz15_7 := blk_frozen BK294.out 7; have hfz15_8 := blk_frozen BK294.out 8; have hfz15_9 := blk_frozen BK294.out 9; have hfz15_10 := blk_frozen BK294.out 10))
  go_ret
  exact ⟨by first | rfl | (simp [errW_none, errW_some] <;> rfl) | (simp [*, errW_none, errW_some] <;> rfl), by repeat (first | (with_reducible first | exact HB.out | apply below_alloc | apply pw_below_drewN | apply below_drew1 | refine below_set ?_ GE294.out) | exact HB.out)⟩
def names_Reset.l0 : Nat → List (S24) → Int → Int → Option ((List (S24)))
 | 0, _, _, _ => none
 | k + 1, x3, x11, x12 => if x12 < x11 then (if 0 ≤ x12 then (if x12 < (x3.length : Int) then ((some (x3.set (x12 : Int).toNat (⟨(rd_T24 x3 x12).f0, true, (rd_T24 x3 x12).f2, (rd_T24 x3 x12).f3⟩ : S24) : List (S24))).bind fun y299 => (names_Reset.l0 k (y299.set (x12 : Int).toNat (⟨(rd_T24 y299 x12).f0, (rd_T24 y299 x12).f1, (rd_T24 y299 x12).f2, ([] : List (S39))⟩ : S24)) x11 (wrap64 (x12 + 1)))) else (none)) else (none)) else (some x3)
def names_Reset.f (k : Nat) (l0 : List (S24)) : Option ((List (S24))) := (names_Right.f k l0).bind fun t295 => (if t295 = true then ((names_own.f l0).bind fun t296 => (names_Reset.l0 k t296 (t296.length : Int) 0)) else (some ([] : List (S24))))
theorem names_Reset.mono_l : ∀ k, (∀ y0 y1 y2, LeO (names_Reset.l0 k y0 y1 y2) (names_Reset.l0 (k + 1) y0 y1 y2))
 | 0 => fun _ _ _ r h => by simp [names_Reset.l0] at h
 | k + 1 => by
  have ih0 := names_Reset.mono_l k
  ·intro y0 y1 y2
   unfold names_Reset.l0
   repeat' first
   | (with_reducible exact ih0 _ _ _)
   | (with_reducible exact names_Right.mono _ _)
   | (with_reducible exact LeO.refl _)
   | (with_reducible exact LeO.none _)
   | (with_reducible refine LeO.ite ?_ ?_)
   | (with_reducible refine LeO.bind ?_ (fun _ => ?_))
   | exact ih0 _ _ _
   | exact names_Right.mono _ _
   | exact LeO.none _
   | refine LeO.ite ?_ ?_
   | refine LeO.bind ?_ (fun _ => ?_)
theorem names_Reset.mono : ∀ a0 k, LeO (names_Reset.f k a0) (names_Reset.f (k + 1) a0) := by
 intro a0 k
 have ih0 := names_Reset.mono_l k
 unfold names_Reset.f
 repeat' first
   | (with_reducible exact ih0 _ _ _)
   | (with_reducible exact names_Right.mono _ _)
   | (with_reducible exact LeO.refl _)
   | (with_reducible exact LeO.none _)
   | (with_reducible refine LeO.ite ?_ ?_)
   | (with_reducible refine LeO.bind ?_ (fun _ => ?_))
   | exact ih0 _ _ _
   | exact names_Right.mono _ _
   | exact LeO.none _
   | refine LeO.ite ?_ ?_
   | refine LeO.bind ?_ (fun _ => ?_)
set_option maxHeartbeats 8000000 in
set_option maxRecDepth 100000 in
theorem names_Reset.calls (k : Nat) (A0 : Option Addr) (c0 : Nat) (l0 : List (S24)) (r : List (S24)) (w : World) (hr0 : Kd.C k24 w A0 l0.length l0) (hc0 : l0.length ≤ c0) (h : names_Reset.f k l0 = some r) :
  Calls Try.prog 56 #[.slice A0 l0.length c0] w fun e w' => ∃ v0_ : Value, e = .returned (v0_) ∧ Kd.S k24 24 w' w.heap.size (fun _ => True) v0_ r ∧ Below w.heap.size w w' := by
 have HR0 := Aside0.mk hr0
 have HC0 := Aside0.mk hc0
 clear hr0 hc0
 have HB := Aside0.mk (Below.refl w.heap.size w)
 have H : ((names_Right.f k l0).bind fun t295 => (if t295 = true then ((names_own.f l0).bind fun t296 => (names_Reset.l0 k t296 (t296.length : Int) 0)) else (some ([] : List (S24))))) = some r := h
 clear h
 replace H := Option.bind_eq_some_iff.mp H
 obtain ⟨t295, A20, H⟩ := H
 replace H : (if t295 = true then ((names_own.f l0).bind fun t296 => (names_Reset.l0 k t296 (t296.length : Int) 0)) else (some ([] : List (S24)))) = some r := H
 have A2 := Aside0.mk A20
 clear A20
 by_cases c3 : t295 = true
 ·subst c3
  have H1 : ((names_own.f l0).bind fun t296 => (names_Reset.l0 k t296 (t296.length : Int) 0)) = some r := by rw [if_pos rfl] at H; exact H
  clear H
  have H := H1
  clear H1
  replace H := Option.bind_eq_some_iff.mp H
  obtain ⟨t296, A40, H⟩ := H
  replace H : (names_Reset.l0 k t296 (t296.length : Int) 0) = some r := H
  have A4 := Aside0.mk A40
  clear A40
  have H' := Aside0.mk H
  clear H
  go_enter Try.func56, Try.ntmps56
  go_wp2_with (first | ((with_reducible refine gate_callee (f := 25) rfl ?_); refine goesL_ (some 6) rfl rfl Try.func25 (by kernel_rfl) rfl #[.slice A0 l0.length c0] rfl (by (try simp only [List.map_toArray, List.map_cons, List.map_nil]); first | done | rfl | (simp only [List.length_drop, List.length_take]; rfl)) ?_; (with_reducible refine (names_Right.calls k _ _ l0 true _ ?side1 ?side2 A2.out).mono ?_); (case side1 => repeat (first | exact HR0.out | (with_reducible refine Kd.C_alloc ?_ _) | (with_reducible refine Kd.C_drewN ?_ _) | (with_reducible refine Kd.C_drew ?_))); (case side2 => exact HC0.out); rintro e w5 ⟨rfl, hb⟩; refine ⟨_, rfl, ?_⟩; have n0_ := Aside0.mk (below_step (by repeat (first | (with_reducible first | exact HB.out | apply below_alloc | apply pw_below_drewN | apply below_drew1) | exact HB.out)) hb); clear HB; have HB := n0_; clear n0_; (try clear hb); (try clear hb2); (try clear hk); (try clear hi)) | ((with_reducible refine gate_callee (f := 40) rfl ?_); refine goesL_ (some 9) rfl rfl Try.func40 (by kernel_rfl) rfl #[.slice A0 l0.length c0] rfl (by (try simp only [List.map_toArray, List.map_cons, List.map_nil]); first | done | rfl | (simp only [List.length_drop, List.length_take]; rfl)) ?_; (with_reducible refine (names_own.calls _ _ l0 t296 _ ?side1 ?side2 A4.out).mono ?_); (case side1 => repeat (first | exact (Kd.C_below HR0.out HB.out) | (with_reducible refine Kd.C_alloc ?_ _) | (with_reducible refine Kd.C_drewN ?_ _) | (with_reducible refine Kd.C_drew ?_))); (case side2 => exact HC0.out); rintro e w6 ⟨v297, rfl, ho0, hb⟩; refine ⟨_, rfl, ?_⟩; have n0_ := Aside0.mk (Kd.S_lower ho0 (below_size (by repeat (first | (with_reducible first | exact HB.out | apply below_alloc | apply pw_below_drewN | apply below_drew1) | exact HB.out)))); have n1_ := Aside0.mk (below_step (by repeat (first | (with_reducible first | exact HB.out | apply below_alloc | apply pw_below_drewN | apply below_drew1) | exact HB.out)) hb); clear HB; have HO298 := n0_; have HB := n1_; clear n0_ n1_; (try clear hb); (try clear hb2); (try clear hk); (try clear hi); (try clear ho0); obtain ⟨Ao7, co7, eo7⟩ := Kd.S_slice HO298.out; subst eo7))
  go_loopg [12] k (fun kq v12 w' => ∃ (x3_1 : List (S24)) (x12_1 : Int), v12 = .int .i64 x12_1 ∧ Aside0 (names_Reset.l0 kq x3_1 (t296.length : Int) x12_1 = some r) ∧ Aside0 (kq ≤ k) ∧ Aside0 (Kd.S k24 24 w' w.heap.size (fun _ => True) (.slice Ao7 t296.length co7) x3_1) ∧ Aside0 (Below w.heap.size w w'))
  case atStart => exact ⟨(t296), (0), (by first | rfl | (simp; done) | (simp [*]; done)), H', ⟨Nat.le_refl _⟩, ⟨by (with_reducible repeat (first | apply Kd.S_alloc | apply Kd.S_drewN | apply Kd.S_drew)); exact HO298.out⟩, ⟨by repeat (first | (with_reducible first | exact HB.out | apply below_alloc | apply pw_below_drewN | apply below_drew1) | exact HB.out)⟩⟩
  case round =>
   clear H'
   try clear c2
   try clear p2
   try clear c3
   try clear c4
   try clear c5
   obtain ⟨x3_1, x12_1, rfl, HA, HK1, HO_3, HB⟩ := hrel
   have hl3_1 := (Kd.S_reads' HO_3.out).1
   rw [hl3_1] at HO_3
   (try simp only [hl3_1])
   cases gk with
   | zero => exact absurd HA.out (by simp [names_Reset.l0])
   | succ k1 =>
    have H := HA.out
    clear HA
    simp only [names_Reset.l0] at H
    by_cases c8 : x12_1 < (t296.length : Int)
    ·rw [if_pos c8] at H
     have c8b0 : decide (x12_1 < (t296.length : Int)) = true := decide_eq_true c8
     clear c8
     by_cases c9 : 0 ≤ x12_1
     ·rw [if_pos c9] at H
      have c9b0 : decide (0 ≤ x12_1) = true := decide_eq_true c9
      clear c9
      by_cases c10 : x12_1 < (x3_1.length : Int)
      ·rw [if_pos c10] at H
       have c10b0 : decide (x12_1 < (x3_1.length : Int)) = true := decide_eq_true c10
       clear c10
       obtain ⟨y299, hy299⟩ : ∃ y_ : List (S24), y_ = (x3_1.set (x12_1 : Int).toNat (⟨(rd_T24 x3_1 x12_1).f0, true, (rd_T24 x3_1 x12_1).f2, (rd_T24 x3_1 x12_1).f3⟩ : S24)) := ⟨_, rfl⟩
       replace H : (names_Reset.l0 k1 (y299.set (x12_1 : Int).toNat (⟨(rd_T24 y299 x12_1).f0, (rd_T24 y299 x12_1).f1, (rd_T24 y299 x12_1).f2, ([] : List (S39))⟩ : S24)) (t296.length : Int) (wrap64 (x12_1 + 1))) = some r := by first | (rw [hy299]; with_reducible exact H) | (have H2_ := (Option.bind_some _ _).symm.trans H; rw [hy299]; with_reducible exact H2_) | (have H2_ := (Option.bind_some _ _).symm.trans H; with_reducible exact H2_) | with_reducible exact H | (rw [hy299]; exact H) | exact H
       have Ny299 := Aside0.mk hy299
       clear hy299
       obtain ⟨y300, hy300⟩ : ∃ y_ : List (S24), y_ = (y299.set (x12_1 : Int).toNat (⟨(rd_T24 y299 x12_1).f0, (rd_T24 y299 x12_1).f1, (rd_T24 y299 x12_1).f2, ([] : List (S39))⟩ : S24)) := ⟨_, rfl⟩
       replace H : (names_Reset.l0 k1 y300 (t296.length : Int) (wrap64 (x12_1 + 1))) = some r := by first | (rw [hy300]; with_reducible exact H) | (have H2_ := (Option.bind_some _ _).symm.trans H; rw [hy300]; with_reducible exact H2_) | (have H2_ := (Option.bind_some _ _).symm.trans H; with_reducible exact H2_) | with_reducible exact H | (rw [hy300]; exact H) | exact H
       have Ny300 := Aside0.mk hy300
       clear hy300
       have H' := Aside0.mk H
       clear H
       have p11 : 0 ≤ (x12_1 : Int) := of_decide_eq_true (by first | (with_reducible assumption) | assumption)
       have q11 : (x12_1 : Int) < ((x3_1.length : Int) : Int) := of_decide_eq_true (by first | (with_reducible assumption) | assumption)
       obtain ⟨go11, co11, eo11, gb11, gl11, cl11, HG11⟩ := Kd.S_form HO_3.out (by omega)
       (first | cases eo11 | (injection eo11 with ea_ en_ ec_; (first | subst ea_ | (injection ea_ with ea_; subst ea_)); subst ec_; clear en_))
       have GB11 := Aside0.mk gb11
       have GG11 := Aside0.mk HG11
       clear gb11 gl11 HG11
       obtain ⟨_, ce11, hcl11, hM11, hcc11, hfr11, _, _⟩ := Kd.S_elem HO_3.out z24 (x12_1 : Int) p11 q11
       obtain ⟨ve11_3, rfl, ge11_3⟩ := k24_openM hM11
       have hx11_0 : wr.cell? ⟨go11, (x12_1 : Int).toNat * 4, none⟩ = some (.string ((rd_T24 x3_1 x12_1).f0)) := hcc11 0 _ rfl
       have hx11_1 : wr.cell? ⟨go11, (x12_1 : Int).toNat * 4 + 1, none⟩ = some (.bool ((rd_T24 x3_1 x12_1).f1)) := hcc11 1 _ rfl
       have hx11_2 : wr.cell? ⟨go11, (x12_1 : Int).toNat * 4 + 2, none⟩ = some (.int .i64 ((rd_T24 x3_1 x12_1).f2)) := hcc11 2 _ rfl
       have hx11_3 : wr.cell? ⟨go11, (x12_1 : Int).toNat * 4 + 3, none⟩ = some (ve11_3) := hcc11 3 _ rfl
       have hf11_0 : wr.frozen? ⟨go11, (x12_1 : Int).toNat * 4, none⟩ = false := hfr11 0
       have hf11_1 : wr.frozen? ⟨go11, (x12_1 : Int).toNat * 4 + 1, none⟩ = false := hfr11 1
       have hf11_2 : wr.frozen? ⟨go11, (x12_1 : Int).toNat * 4 + 2, none⟩ = false := hfr11 2
       have hf11_3 : wr.frozen? ⟨go11, (x12_1 : Int).toNat * 4 + 3, none⟩ = false := hfr11 3
       clear hcl11 hcc11 hfr11 hM11
       replace p11 := eq_true p11
       replace q11 := eq_true q11
       have HX13 := Aside0.mk (show Kd.S k24 24 wr w.heap.size (fun k_ => ((fun _ => True)) k_ ∧ ¬ ((fun _ => False)) k_) (.slice (some ⟨go11, 0, none⟩) x3_1.length co7) x3_1 from (by (with_reducible repeat (first | apply Kd.S_alloc | apply Kd.S_drewN | apply Kd.S_drew)); exact Kd.S_mono HO_3.out (fun k_ hk => ⟨trivial, fun e_ => e_⟩)))
       obtain ⟨oki13, ce13, hcl13, hM13, hcc13, hfr13, hoki13, hH13⟩ := Kd.S_elem HX13.out z24 (x12_1 : Int) (of_decide_eq_true (by first | (with_reducible assumption) | assumption)) (by have h_ : (x12_1 : Int) < ((x3_1.length : Int) : Int) := of_decide_eq_true (by first | (with_reducible assumption) | assumption); first | exact h_ | (have e_ := (Kd.S_reads' HO_3.out).1; omega) | simpa using h_)
       obtain ⟨ve13_3, rfl, ge13_3⟩ := k24_openM hM13
       have HP13 := Kd.S_seg hH13 (of_decide_eq_true (by first | (with_reducible assumption) | assumption)) (by have h_ : (x12_1 : Int) < ((x3_1.length : Int) : Int) := of_decide_eq_true (by first | (with_reducible assumption) | assumption); first | exact h_ | (have e_ := (Kd.S_reads' HO_3.out).1; omega) | simpa using h_) (seg := [.bool true]) (j := 1) (show 2 ≤ 4 from by decide) (x' := (⟨(rd_T24 x3_1 x12_1).f0, true, (rd_T24 x3_1 x12_1).f2, (rd_T24 x3_1 x12_1).f3⟩ : S24)) (k24_mkM _ _ _ (⟨(rd_T24 x3_1 x12_1).f0, true, (rd_T24 x3_1 x12_1).f2, (rd_T24 x3_1 x12_1).f3⟩ : S24) (Kd.R_mono ge13_3 (fun _ h_ => Or.inl h_))) (fun _ hk => hk) (fun k_ hk_ => hk_.elim)
       have hx13_1 := hcc13 1 _ rfl
       (try simp only [show (k24).sz = 4 from rfl, Nat.mul_one, Nat.add_zero] at hx13_1)
       have hf13_1 := hfr13 1
       (try simp only [show (k24).sz = 4 from rfl, Nat.mul_one, Nat.add_zero] at hf13_1)
       clear hcl13 hcc13 hfr13 hM13 hoki13 hH13
       go_wp2_with (first | ((with_reducible refine gate_store (t := 4) (p := 20) rfl ?_); refine store_event (t := 4) (p := 20) (v := ?vo_w14) (w1 := (wr.setCell ⟨go11, (x12_1 : Int).toNat * 4 + 1, none⟩ (.bool true))) ?hg ?ho ?hn ?hr ?_; (case ho => rfl); (case hg => rfl); (case hn => rfl); (case hr => first | (go_simp; done) | (go_simp; rfl)); intro w14 hw; have hg : wr.grownBy w14 (some go11) := (by rw [hw]; exact HP13.2); have hp_ : Kd.S k24 24 w14 w.heap.size (fun _ => True) (.slice (some ⟨go11, 0, none⟩) x3_1.length co7) y299 := (by rw [hw, Ny299.out]; exact HP13.1); clear HP13; have n0_ := Aside0.mk (hp_); have n1_ := Aside0.mk ((by rw [hw]; exact below_set (HB.out) GB11.out : Below w.heap.size w w14)); clear HO_3; clear HB; have HO_3 := n0_; have HB := n1_; clear n0_ n1_; clear hg hw hp_; have p12 : 0 ≤ (x12_1 : Int) := of_decide_eq_true (by first | (with_reducible assumption) | assumption); have q12 : (x12_1 : Int) < ((x3_1.length : Int) : Int) := of_decide_eq_true (by first | (with_reducible assumption) | assumption); obtain ⟨_, ce12, hcl12, hM12, hcc12, hfr12, _, _⟩ := Kd.S_elem HO_3.out z24 (x12_1 : Int) p12 q12; obtain ⟨ve12_3, rfl, ge12_3⟩ := k24_openM hM12; have hx12_0 : w14.cell? ⟨go11, (x12_1 : Int).toNat * 4, none⟩ = some (.string ((rd_T24 y299 x12_1).f0)) := hcc12 0 _ rfl; have hx12_1 : w14.cell? ⟨go11, (x12_1 : Int).toNat * 4 + 1, none⟩ = some (.bool ((rd_T24 y299 x12_1).f1)) := hcc12 1 _ rfl; have hx12_2 : w14.cell? ⟨go11, (x12_1 : Int).toNat * 4 + 2, none⟩ = some (.int .i64 ((rd_T24 y299 x12_1).f2)) := hcc12 2 _ rfl; have hx12_3 : w14.cell? ⟨go11, (x12_1 : Int).toNat * 4 + 3, none⟩ = some (ve12_3) := hcc12 3 _ rfl; have hf12_0 : w14.frozen? ⟨go11, (x12_1 : Int).toNat * 4, none⟩ = false := hfr12 0; have hf12_1 : w14.frozen? ⟨go11, (x12_1 : Int).toNat * 4 + 1, none⟩ = false := hfr12 1; have hf12_2 : w14.frozen? ⟨go11, (x12_1 : Int).toNat * 4 + 2, none⟩ = false := hfr12 2; have hf12_3 : w14.frozen? ⟨go11, (x12_1 : Int).toNat * 4 + 3, none⟩ = false := hfr12 3; clear hcl12 hcc12 hfr12 hM12; replace p12 := eq_true p12; replace q12 := eq_true q12; have HX15 := Aside0.mk (show Kd.S k24 24 w14 w.heap.size (fun k_ => ((fun _ => True)) k_ ∧ ¬ ((fun _ => False)) k_) (.slice (some ⟨go11, 0, none⟩) x3_1.length co7) y299 from (by (with_reducible repeat (first | apply Kd.S_alloc | apply Kd.S_drewN | apply Kd.S_drew)); exact Kd.S_mono HO_3.out (fun k_ hk => ⟨trivial, fun e_ => e_⟩))); obtain ⟨oki15, ce15, hcl15, hM15, hcc15, hfr15, hoki15, hH15⟩ := Kd.S_elem HX15.out z24 (x12_1 : Int) (of_decide_eq_true (by first | (with_reducible assumption) | assumption)) (by have h_ : (x12_1 : Int) < ((x3_1.length : Int) : Int) := of_decide_eq_true (by first | (with_reducible assumption) | assumption); first | exact h_ | (have e_ := (Kd.S_reads' HO_3.out).1; omega) | simpa using h_); obtain ⟨ve15_3, rfl, ge15_3⟩ := k24_openM hM15; have HP15 := Kd.S_seg hH15 (of_decide_eq_true (by first | (with_reducible assumption) | assumption)) (by have h_ : (x12_1 : Int) < ((x3_1.length : Int) : Int) := of_decide_eq_true (by first | (with_reducible assumption) | assumption); first | exact h_ | (have e_ := (Kd.S_reads' HO_3.out).1; omega) | simpa using h_) (seg := [.slice none 0 0]) (j := 3) (show 4 ≤ 4 from by decide) (x' := (⟨(rd_T24 y299 x12_1).f0, (rd_T24 y299 x12_1).f1, (rd_T24 y299 x12_1).f2, ([] : List (S39))⟩ : S24)) (k24_mkM _ _ _ (⟨(rd_T24 y299 x12_1).f0, (rd_T24 y299 x12_1).f1, (rd_T24 y299 x12_1).f2, ([] : List (S39))⟩ : S24) (Kd.R_nil _ _ _ _ _)) (fun _ hk => hk) (fun k_ hk_ => hk_.elim); have hx15_3 := hcc15 3 _ rfl; (try simp only [show (k24).sz = 4 from rfl, Nat.mul_one, Nat.add_zero] at hx15_3); have hf15_3 := hfr15 3; (try simp only [show (k24).sz = 4 from rfl, Nat.mul_one, Nat.add_zero] at hf15_3); clear hcl15 hcc15 hfr15 hM15 hoki15 hH15) | ((with_reducible refine gate_store (t := 22) (p := 22) rfl ?_); refine store_event (t := 22) (p := 22) (v := ?vo_w16) (w1 := (w14.setCell ⟨go11, (x12_1 : Int).toNat * 4 + 3, none⟩ (.slice none 0 0))) ?hg ?ho ?hn ?hr ?_; (case ho => rfl); (case hg => rfl); (case hn => rfl); (case hr => first | (go_simp; done) | (go_simp; rfl)); intro w16 hw; have hg : w14.grownBy w16 (some go11) := (by rw [hw]; exact HP15.2); have hp_ : Kd.S k24 24 w16 w.heap.size (fun _ => True) (.slice (some ⟨go11, 0, none⟩) x3_1.length co7) y300 := (by rw [hw, Ny300.out]; exact HP15.1); clear HP15; have n0_ := Aside0.mk (hp_); have n1_ := Aside0.mk ((by rw [hw]; exact below_set (HB.out) GB11.out : Below w.heap.size w w16)); clear HO_3; clear HB; have HO_3 := n0_; have HB := n1_; clear n0_ n1_; clear hg hw hp_))
       (try simp only [← hl3_1])
       go_roundg k1
       case measure => have := HK1.out; omega
       case rel => exact ⟨(y300), (wrap64 (x12_1 + 1)), (by first | rfl | (simp; done) | (simp [*]; done)), H', ⟨by have := HK1.out; omega⟩, ⟨by (try simp only [hl3_1]); (with_reducible repeat (first | apply Kd.S_alloc | apply Kd.S_drewN | apply Kd.S_drew)); exact HO_3.out⟩, ⟨by repeat (first | (with_reducible first | exact HB.out | apply below_alloc | apply pw_below_drewN | apply below_drew1) | exact HB.out)⟩⟩
      ·rw [if_neg c10] at H
       exact absurd H (by simp)
     ·rw [if_neg c9] at H
      exact absurd H (by simp)
    ·rw [if_neg c8] at H
     have c8b0 : decide (x12_1 < (t296.length : Int)) = false := decide_eq_false c8
     replace c8b0 : decide (x12_1 < (x3_1.length : Int)) = false := by rw [← hl3_1]; exact c8b0
     clear c8
     obtain rfl := Option.some.inj H
     go_wp2
     go_ret
     exact ⟨_, by first | rfl | (simp [errW_none, errW_some] <;> rfl) | (simp [*, errW_none, errW_some] <;> rfl), by (with_reducible repeat (first | apply Kd.S_alloc | apply Kd.S_drewN | apply Kd.S_drew)); exact HO_3.out, by repeat (first | (with_reducible first | exact HB.out | apply below_alloc | apply pw_below_drewN | apply below_drew1) | exact HB.out)⟩
 ·replace c3 := Bool.eq_false_iff.mpr c3
  subst c3
  have H1 : (some ([] : List (S24))) = some r := by rw [if_neg (show ¬ (false = true) by decide)] at H; exact H
  clear H
  have H := H1
  clear H1
  obtain rfl := Option.some.inj H
  go_enter Try.func56, Try.ntmps56
  go_wp2_with (first | ((with_reducible refine gate_callee (f := 25) rfl ?_); refine goesL_ (some 6) rfl rfl Try.func25 (by kernel_rfl) rfl #[.slice A0 l0.length c0] rfl (by (try simp only [List.map_toArray, List.map_cons, List.map_nil]); first | done | rfl | (simp only [List.length_drop, List.length_take]; rfl)) ?_; (with_reducible refine (names_Right.calls k _ _ l0 false _ ?side1 ?side2 A2.out).mono ?_); (case side1 => repeat (first | exact HR0.out | (with_reducible refine Kd.C_alloc ?_ _) | (with_reducible refine Kd.C_drewN ?_ _) | (with_reducible refine Kd.C_drew ?_))); (case side2 => exact HC0.out); rintro e w17 ⟨rfl, hb⟩; refine ⟨_, rfl, ?_⟩; have n0_ := Aside0.mk (below_step (by repeat (first | (with_reducible first | exact HB.out | apply below_alloc | apply pw_below_drewN | apply below_drew1) | exact HB.out)) hb); clear HB; have HB := n0_; clear n0_; (try clear hb); (try clear hb2); (try clear hk); (try clear hi)))
  go_ret
  exact ⟨_, by first | rfl | (simp [errW_none, errW_some] <;> rfl) | (simp [*, errW_none, errW_some] <;> rfl), by first | exact Kd.S_nil _ _ _ _ _ | exact Kd.N_nil _ _ _ _ _ | exact Kd.V_nil _ _ _ _ _ | exact Kd.Q_nil _ _ _ _ _ | exact Kd.R_nil _ _ _ _ _, by repeat (first | (with_reducible first | exact HB.out | apply below_alloc | apply pw_below_drewN | apply below_drew1) | exact HB.out)⟩
def chicanelaw14_does.f (k : Nat) (l0 : List (S24)) (a1_0 : Int) (a1_1 : Int) (a1_2 : ByteArray) (a1_3 : ByteArray) (a1_4 : Bool) (a1_5 : ByteArray) (a1_6 : Int) (a1_7 : Bool) (a1_8 : Int) (a1_9 : Int) (a1_10 : Int) : Option ((List (S24)) × Int) := if a1_0 = 0 then ((names_Add.f l0 a1_2 a1_1).bind fun bt302 => (some (bt302.1, bt302.2))) else (if a1_0 = 1 then ((names_Drop.f l0 a1_2).bind fun bt306 => (some (bt306.1, bt306.2))) else (if a1_0 = 2 then ((names_Switch.f l0 a1_2 a1_4).bind fun bt310 => (some (bt310.1, bt310.2))) else (if a1_0 = 3 then ((names_AddToxic.f l0 a1_2 a1_5 a1_6 a1_7 a1_8 a1_9 a1_10).bind fun bt314 => (some (bt314.1, bt314.2))) else (if a1_0 = 4 then ((names_DropToxic.f l0 a1_2 a1_3).bind fun bt318 => (some (bt318.1, bt318.2))) else (if a1_0 = 5 then ((names_SetToxic.f l0 a1_2 a1_5 a1_6 a1_7 a1_8 a1_9 a1_10).bind fun bt322 => (some (bt322.1, bt322.2))) else ((names_Reset.f k l0).bind fun t326 => (some (t326, 0))))))))
theorem chicanelaw14_does.mono : ∀ a0 a1 a2 a3 a4 a5 a6 a7 a8 a9 a10 a11 k, LeO (chicanelaw14_does.f k a0 a1 a2 a3 a4 a5 a6 a7 a8 a9 a10 a11) (chicanelaw14_does.f (k + 1) a0 a1 a2 a3 a4 a5 a6 a7 a8 a9 a10 a11) := by
 intro a0 a1 a2 a3 a4 a5 a6 a7 a8 a9 a10 a11 k
 unfold chicanelaw14_does.f
 repeat' first
   | (with_reducible exact names_Reset.mono _ _)
   | (with_reducible exact LeO.refl _)
   | (with_reducible exact LeO.none _)
   | (with_reducible refine LeO.ite ?_ ?_)
   | (with_reducible refine LeO.bind ?_ (fun _ => ?_))
   | exact names_Reset.mono _ _
   | exact LeO.none _
   | refine LeO.ite ?_ ?_
   | refine LeO.bind ?_ (fun _ => ?_)
set_option maxHeartbeats 8000000 in
set_option maxRecDepth 100000 in
theorem chicanelaw14_does.calls (k : Nat) (A0 : Option Addr) (c0 : Nat) (l0 : List (S24)) (a1_0 : Int) (a1_1 : Int) (a1_2 : ByteArray) (a1_3 : ByteArray) (a1_4 : Bool) (a1_5 : ByteArray) (a1_6 : Int) (a1_7 : Bool) (a1_8 : Int) (a1_9 : Int) (a1_10 : Int) (r1 : List (S24)) (r2 : Int) (w : World) (hr0 : Kd.C k24 w A0 l0.length l0) (hc0 : l0.length ≤ c0) (h : chicanelaw14_does.f k l0 a1_0 a1_1 a1_2 a1_3 a1_4 a1_5 a1_6 a1_7 a1_8 a1_9 a1_10 = some (r1, r2)) :
  Calls Try.prog 24 #[.slice A0 l0.length c0, .agg #[.int .i64 a1_0, .int .i64 a1_1, .string a1_2, .string a1_3, .bool a1_4, .string a1_5, .int .i64 a1_6, .bool a1_7, .int .i64 a1_8, .int .i64 a1_9, .int .i64 a1_10]] w fun e w' => ∃ v0_ : Value, e = .returned (.tuple #[v0_, .int .i64 r2]) ∧ Kd.S k24 24 w' w.heap.size (fun _ => True) v0_ r1 ∧ Below w.heap.size w w' := by
 have hu48 := Try.underlying48
 have hu39 := Try.underlying39
 have HR0 := Aside0.mk hr0
 have HC0 := Aside0.mk hc0
 clear hr0 hc0
 have HB := Aside0.mk (Below.refl w.heap.size w)
 have H : (if a1_0 = 0 then ((names_Add.f l0 a1_2 a1_1).bind fun bt302 => (some (bt302.1, bt302.2))) else (if a1_0 = 1 then ((names_Drop.f l0 a1_2).bind fun bt306 => (some (bt306.1, bt306.2))) else (if a1_0 = 2 then ((names_Switch.f l0 a1_2 a1_4).bind fun bt310 => (some (bt310.1, bt310.2))) else (if a1_0 = 3 then ((names_AddToxic.f l0 a1_2 a1_5 a1_6 a1_7 a1_8 a1_9 a1_10).bind fun bt314 => (some (bt314.1, bt314.2))) else (if a1_0 = 4 then ((names_DropToxic.f l0 a1_2 a1_3).bind fun bt318 => (some (bt318.1, bt318.2))) else (if a1_0 = 5 then ((names_SetToxic.f l0 a1_2 a1_5 a1_6 a1_7 a1_8 a1_9 a1_10).bind fun bt322 => (some (bt322.1, bt322.2))) else ((names_Reset.f k l0).bind fun t326 => (some (t326, 0))))))))) = some (r1, r2) := h
 clear h
 by_cases c3 : a1_0 = 0
 ·rw [if_pos c3] at H
  have c3b0 : (a1_0 == 0) = true := beq_iff_eq.mpr c3
  have c3b1 : (a1_0 != 0) = false := bne_eq_false_iff_eq.mpr c3
  clear c3
  replace H := Option.bind_eq_some_iff.mp H
  obtain ⟨⟨t302, t303⟩, A40, H⟩ := H
  replace H : (some (t302, t303)) = some (r1, r2) := H
  have A4 := Aside0.mk A40
  clear A40
  simp only [Option.some.injEq, Prod.mk.injEq] at H
  obtain ⟨rfl, rfl⟩ := H
  go_enter Try.func24, Try.ntmps24
  go_wp2_with (first | ((with_reducible refine gate_dst (N := 3) rfl ?_); refine box_event ?hg (N := 3) ?hd (cs := #[.int .i64 a1_0, .int .i64 a1_1, .string a1_2, .string a1_3, .bool a1_4, .string a1_5, .int .i64 a1_6, .bool a1_7, .int .i64 a1_8, .int .i64 a1_9, .int .i64 a1_10]) (t := 48) ?hr ?_; (case hd => rfl); (case hg => rfl); (case hr => first | (go_simp; done) | (go_simp; rfl)); intro gb301 hg w5 hbox hb; have n0_ := Aside0.mk (below_step (by repeat (first | (with_reducible first | exact HB.out | apply below_alloc | apply pw_below_drewN | apply below_drew1) | exact HB.out)) hb); have n1_ := Aside0.mk (hbox); have n2_ := Aside0.mk ((by rw [hg]; exact (below_size (by repeat (first | (with_reducible first | exact HB.out | apply below_alloc | apply pw_below_drewN | apply below_drew1) | exact HB.out))) : w.heap.size ≤ gb301)); have n3_ := Aside0.mk ((by rw [hg]; exact (below_size (by repeat (first | (with_reducible first | exact HB.out | apply below_alloc | apply pw_below_drewN | apply below_drew1) | exact HB.out))) : w.heap.size ≤ gb301)); clear HB; have HB := n0_; have BK301 := n1_; have GW301 := n2_; have GE301 := n3_; clear n0_ n1_ n2_ n3_; clear hb hbox hg; have hcz6_0 : w5.cell? ⟨gb301, 0, none⟩ = some (.int .i64 a1_0) := (blk_cell BK301.out 0).trans rfl; have hcz6_1 : w5.cell? ⟨gb301, 1, none⟩ = some (.int .i64 a1_1) := (blk_cell BK301.out 1).trans rfl; have hcz6_2 : w5.cell? ⟨gb301, 2, none⟩ = some (.string a1_2) := (blk_cell BK301.out 2).trans rfl; have hcz6_3 : w5.cell? ⟨gb301, 3, none⟩ = some (.string a1_3) := (blk_cell BK301.out 3).trans rfl; have hcz6_4 : w5.cell? ⟨gb301, 4, none⟩ = some (.bool a1_4) := (blk_cell BK301.out 4).trans rfl; have hcz6_5 : w5.cell? ⟨gb301, 5, none⟩ = some (.string a1_5) := (blk_cell BK301.out 5).trans rfl; have hcz6_6 : w5.cell? ⟨gb301, 6, none⟩ = some (.int .i64 a1_6) := (blk_cell BK301.out 6).trans rfl; have hcz6_7 : w5.cell? ⟨gb301, 7, none⟩ = some (.bool a1_7) := (blk_cell BK301.out 7).trans rfl; have hcz6_8 : w5.cell? ⟨gb301, 8, none⟩ = some (.int .i64 a1_8) := (blk_cell BK301.out 8).trans rfl; have hcz6_9 : w5.cell? ⟨gb301, 9, none⟩ = some (.int .i64 a1_9) := (blk_cell BK301.out 9).trans rfl; have hcz6_10 : w5.cell? ⟨gb301, 10, none⟩ = some (.int .i64 a1_10) := (blk_cell BK301.out 10).trans rfl; have hfz6_0 := blk_frozen BK301.out 0; have hfz6_1 := blk_frozen BK301.out 1; have hfz6_2 := blk_frozen BK301.out 2; have hfz6_3 := blk_frozen BK301.out 3; have hfz6_4 := blk_frozen BK301.out 4; have hfz6_5 := blk_frozen BK301.out 5; have hfz6_6 := blk_frozen BK301.out 6; have hfz6_7 := blk_frozen BK301.out 7; have hfz6_8 := blk_frozen BK301.out 8; have hfz6_9 := blk_frozen BK301.out 9; have hfz6_10 := blk_frozen BK301.out 10) | ((with_reducible refine gate_callee (f := 20) rfl ?_); refine goesL_ (some 15) rfl rfl Try.func20 (by kernel_rfl) rfl #[.slice A0 l0.length c0, .string a1_2, .int .i64 a1_1] rfl (by (try simp only [List.map_toArray, List.map_cons, List.map_nil]); first | done | rfl | (simp only [List.length_drop, List.length_take]; rfl)) ?_; (with_reducible refine (names_Add.calls _ _ l0 a1_2 a1_1 t302 t303 _ ?side1 ?side2 A4.out).mono ?_); (case side1 => repeat (first | exact (Kd.C_below HR0.out HB.out) | (with_reducible refine Kd.C_alloc ?_ _) | (with_reducible refine Kd.C_drewN ?_ _) | (with_reducible refine Kd.C_drew ?_))); (case side2 => exact HC0.out); rintro e w7 ⟨v304, rfl, ho0, hb⟩; refine ⟨_, rfl, ?_⟩; have n0_ := Aside0.mk (Kd.S_lower ho0 (below_size (by repeat (first | (with_reducible first | exact HB.out | apply below_alloc | apply pw_below_drewN | apply below_drew1 | refine below_set ?_ GE301.out) | exact HB.out)))); have n1_ := Aside0.mk (blk_below (g := gb301) (o := .cells #[.int .i64 a1_0, .int .i64 a1_1, .string a1_2, .string a1_3, .bool a1_4, .string a1_5, .int .i64 a1_6, .bool a1_7, .int .i64 a1_8, .int .i64 a1_9, .int .i64 a1_10] 48 (0, 0)) (by (with_reducible repeat (first | refine blk_drewN ?_ _ | refine blk_drew ?_ | refine blk_alloc ?_ _)); exact BK301.out) hb); have n2_ := Aside0.mk (below_step (by repeat (first | (with_reducible first | exact HB.out | apply below_alloc | apply pw_below_drewN | apply below_drew1 | refine below_set ?_ GE301.out) | exact HB.out)) hb); clear BK301; clear HB; have HO305 := n0_; have BK301 := n1_; have HB := n2_; clear n0_ n1_ n2_; (try clear hb); (try clear hb2); (try clear hk); (try clear hi); (try clear ho0)))
  go_ret2
  exact ⟨_, by first | rfl | (simp [errW_none, errW_some] <;> rfl) | (simp [*, errW_none, errW_some] <;> rfl), by (with_reducible repeat (first | apply Kd.S_alloc | apply Kd.S_drewN | apply Kd.S_drew)); exact HO305.out, by repeat (first | (with_reducible first | exact HB.out | apply below_alloc | apply pw_below_drewN | apply below_drew1 | refine below_set ?_ GE301.out) | exact HB.out)⟩
 ·rw [if_neg c3] at H
  have c3b0 : (a1_0 == 0) = false := beq_eq_false_iff_ne.mpr c3
  have c3b1 : (a1_0 != 0) = true := bne_iff_ne.mpr c3
  by_cases c8 : a1_0 = 1
  ·rw [if_pos c8] at H
   have c8b0 : (a1_0 == 1) = true := beq_iff_eq.mpr c8
   have c8b1 : (a1_0 != 1) = false := bne_eq_false_iff_eq.mpr c8
   clear c8
   replace H := Option.bind_eq_some_iff.mp H
   obtain ⟨⟨t306, t307⟩, A90, H⟩ := H
   replace H : (some (t306, t307)) = some (r1, r2) := H
   have A9 := Aside0.mk A90
   clear A90
   simp only [Option.some.injEq, Prod.mk.injEq] at H
   obtain ⟨rfl, rfl⟩ := H
   go_enter Try.func24, Try.ntmps24
   go_wp2_with (first | ((with_reducible refine gate_dst (N := 3) rfl ?_); refine box_event ?hg (N := 3) ?hd (cs := #[.int .i64 a1_0, .int .i64 a1_1, .string a1_2, .string a1_3, .bool a1_4, .string a1_5, .int .i64 a1_6, .bool a1_7, .int .i64 a1_8, .int .i64 a1_9, .int .i64 a1_10]) (t := 48) ?hr ?_; (case hd => rfl); (case hg => rfl); (case hr => first | (go_simp; done) | (go_simp; rfl)); intro gb301 hg w10 hbox hb; have n0_ := Aside0.mk (below_step (by repeat (first | (with_reducible first | exact HB.out | apply below_alloc | apply pw_below_drewN | apply below_drew1) | exact HB.out)) hb); have n1_ := Aside0.mk (hbox); have n2_ := Aside0.mk ((by rw [hg]; exact (below_size (by repeat (first | (with_reducible first | exact HB.out | apply below_alloc | apply pw_below_drewN | apply below_drew1) | exact HB.out))) : w.heap.size ≤ gb301)); have n3_ := Aside0.mk ((by rw [hg]; exact (below_size (by repeat (first | (with_reducible first | exact HB.out | apply below_alloc | apply pw_below_drewN | apply below_drew1) | exact HB.out))) : w.heap.size ≤ gb301)); clear HB; have HB := n0_; have BK301 := n1_; have GW301 := n2_; have GE301 := n3_; clear n0_ n1_ n2_ n3_; clear hb hbox hg; have hcz11_0 : w10.cell? ⟨gb301, 0, none⟩ = some (.int .i64 a1_0) := (blk_cell BK301.out 0).trans rfl; have hcz11_1 : w10.cell? ⟨gb301, 1, none⟩ = some (.int .i64 a1_1) := (blk_cell BK301.out 1).trans rfl; have hcz11_2 : w10.cell? ⟨gb301, 2, none⟩ = some (.string a1_2) := (blk_cell BK301.out 2).trans rfl; have hcz11_3 : w10.cell? ⟨gb301, 3, none⟩ = some (.string a1_3) := (blk_cell BK301.out 3).trans rfl; have hcz11_4 : w10.cell? ⟨gb301, 4, none⟩ = some (.bool a1_4) := (blk_cell BK301.out 4).trans rfl; have hcz11_5 : w10.cell? ⟨gb301, 5, none⟩ = some (.string a1_5) := (blk_cell BK301.out 5).trans rfl; have hcz11_6 : w10.cell? ⟨gb301, 6, none⟩ = some (.int .i64 a1_6) := (blk_cell BK301.out 6).trans rfl; have hcz11_7 : w10.cell? ⟨gb301, 7, none⟩ = some (.bool a1_7) := (blk_cell BK301.out 7).trans rfl; have hcz11_8 : w10.cell? ⟨gb301, 8, none⟩ = some (.int .i64 a1_8) := (blk_cell BK301.out 8).trans rfl; have hcz11_9 : w10.cell? ⟨gb301, 9, none⟩ = some (.int .i64 a1_9) := (blk_cell BK301.out 9).trans rfl; have hcz11_10 : w10.cell? ⟨gb301, 10, none⟩ = some (.int .i64 a1_10) := (blk_cell BK301.out 10).trans rfl; have hfz11_0 := blk_frozen BK301.out 0; have hfz11_1 := blk_frozen BK301.out 1; have hfz11_2 := blk_frozen BK301.out 2; have hfz11_3 := blk_frozen BK301.out 3; have hfz11_4 := blk_frozen BK301.out 4; have hfz11_5 := blk_frozen BK301.out 5; have hfz11_6 := blk_frozen BK301.out 6; have hfz11_7 := blk_frozen BK301.out 7; have hfz11_8 := blk_frozen BK301.out 8; have hfz11_9 := blk_frozen BK301.out 9; have hfz11_10 := blk_frozen BK301.out 10) | ((with_reducible refine gate_callee (f := 21) rfl ?_); refine goesL_ (some 23) rfl rfl Try.func21 (by kernel_rfl) rfl #[.slice A0 l0.length c0, .string a1_2] rfl (by (try simp only [List.map_toArray, List.map_cons, List.map_nil]); first | done | rfl | (simp only [List.length_drop, List.length_take]; rfl)) ?_; (with_reducible refine (names_Drop.calls _ _ l0 a1_2 t306 t307 _ ?side1 ?side2 A9.out).mono ?_); (case side1 => repeat (first | exact (Kd.C_below HR0.out HB.out) | (with_reducible refine Kd.C_alloc ?_ _) | (with_reducible refine Kd.C_drewN ?_ _) | (with_reducible refine Kd.C_drew ?_))); (case side2 => exact HC0.out); rintro e w12 ⟨v308, rfl, ho0, hb⟩; refine ⟨_, rfl, ?_⟩; have n0_ := Aside0.mk (Kd.S_lower ho0 (below_size (by repeat (first | (with_reducible first | exact HB.out | apply below_alloc | apply pw_below_drewN | apply below_drew1 | refine below_set ?_ GE301.out) | exact HB.out)))); have n1_ := Aside0.mk (blk_below (g := gb301) (o := .cells #[.int .i64 a1_0, .int .i64 a1_1, .string a1_2, .string a1_3, .bool a1_4, .string a1_5, .int .i64 a1_6, .bool a1_7, .int .i64 a1_8, .int .i64 a1_9, .int .i64 a1_10] 48 (0, 0)) (by (with_reducible repeat (first | refine blk_drewN ?_ _ | refine blk_drew ?_ | refine blk_alloc ?_ _)); exact BK301.out) hb); have n2_ := Aside0.mk (below_step (by repeat (first | (with_reducible first | exact HB.out | apply below_alloc | apply pw_below_drewN | apply below_drew1 | refine below_set ?_ GE301.out) | exact HB.out)) hb); clear BK301; clear HB; have HO309 := n0_; have BK301 := n1_; have HB := n2_; clear n0_ n1_ n2_; (try clear hb); (try clear hb2); (try clear hk); (try clear hi); (try clear ho0)))
   go_ret2
   exact ⟨_, by first | rfl | (simp [errW_none, errW_some] <;> rfl) | (simp [*, errW_none, errW_some] <;> rfl), by (with_reducible repeat (first | apply Kd.S_alloc | apply Kd.S_drewN | apply Kd.S_drew)); exact HO309.out, by repeat (first | (with_reducible first | exact HB.out | apply below_alloc | apply pw_below_drewN | apply below_drew1 | refine below_set ?_ GE301.out) | exact HB.out)⟩
  ·rw [if_neg c8] at H
   have c8b0 : (a1_0 == 1) = false := beq_eq_false_iff_ne.mpr c8
   have c8b1 : (a1_0 != 1) = true := bne_iff_ne.mpr c8
   by_cases c13 : a1_0 = 2
   ·rw [if_pos c13] at H
    have c13b0 : (a1_0 == 2) = true := beq_iff_eq.mpr c13
    have c13b1 : (a1_0 != 2) = false := bne_eq_false_iff_eq.mpr c13
    clear c13
    replace H := Option.bind_eq_some_iff.mp H
    obtain ⟨⟨t310, t311⟩, A140, H⟩ := H
    replace H : (some (t310, t311)) = some (r1, r2) := H
    have A14 := Aside0.mk A140
    clear A140
    simp only [Option.some.injEq, Prod.mk.injEq] at H
    obtain ⟨rfl, rfl⟩ := H
    go_enter Try.func24, Try.ntmps24
    go_wp2_with (first | ((with_reducible refine gate_dst (N := 3) rfl ?_); refine box_event ?hg (N := 3) ?hd (cs := #[.int .i64 a1_0, .int .i64 a1_1, .string a1_2, .string a1_3, .bool a1_4, .string a1_5, .int .i64 a1_6, .bool a1_7, .int .i64 a1_8, .int .i64 a1_9, .int .i64 a1_10]) (t := 48) ?hr ?_; (case hd => rfl); (case hg => rfl); (case hr => first | (go_simp; done) | (go_simp; rfl)); intro gb301 hg w15 hbox hb; have n0_ := Aside0.mk (below_step (by repeat (first | (with_reducible first | exact HB.out | apply below_alloc | apply pw_below_drewN | apply below_drew1) | exact HB.out)) hb); have n1_ := Aside0.mk (hbox); have n2_ := Aside0.mk ((by rw [hg]; exact (below_size (by repeat (first | (with_reducible first | exact HB.out | apply below_alloc | apply pw_below_drewN | apply below_drew1) | exact HB.out))) : w.heap.size ≤ gb301)); have n3_ := Aside0.mk ((by rw [hg]; exact (below_size (by repeat (first | (with_reducible first | exact HB.out | apply below_alloc | apply pw_below_drewN | apply below_drew1) | exact HB.out))) : w.heap.size ≤ gb301)); clear HB; have HB := n0_; have BK301 := n1_; have GW301 := n2_; have GE301 := n3_; clear n0_ n1_ n2_ n3_; clear hb hbox hg; have hcz16_0 : w15.cell? ⟨gb301, 0, none⟩ = some (.int .i64 a1_0) := (blk_cell BK301.out 0).trans rfl; have hcz16_1 : w15.cell? ⟨gb301, 1, none⟩ = some (.int .i64 a1_1) := (blk_cell BK301.out 1).trans rfl; have hcz16_2 : w15.cell? ⟨gb301, 2, none⟩ = some (.string a1_2) := (blk_cell BK301.out 2).trans rfl; have hcz16_3 : w15.cell? ⟨gb301, 3, none⟩ = some (.string a1_3) := (blk_cell BK301.out 3).trans rfl; have hcz16_4 : w15.cell? ⟨gb301, 4, none⟩ = some (.bool a1_4) := (blk_cell BK301.out 4).trans rfl; have hcz16_5 : w15.cell? ⟨gb301, 5, none⟩ = some (.string a1_5) := (blk_cell BK301.out 5).trans rfl; have hcz16_6 : w15.cell? ⟨gb301, 6, none⟩ = some (.int .i64 a1_6) := (blk_cell BK301.out 6).trans rfl; have hcz16_7 : w15.cell? ⟨gb301, 7, none⟩ = some (.bool a1_7) := (blk_cell BK301.out 7).trans rfl; have hcz16_8 : w15.cell? ⟨gb301, 8, none⟩ = some (.int .i64 a1_8) := (blk_cell BK301.out 8).trans rfl; have hcz16_9 : w15.cell? ⟨gb301, 9, none⟩ = some (.int .i64 a1_9) := (blk_cell BK301.out 9).trans rfl; have hcz16_10 : w15.cell? ⟨gb301, 10, none⟩ = some (.int .i64 a1_10) := (blk_cell BK301.out 10).trans rfl; have hfz16_0 := blk_frozen BK301.out 0; have hfz16_1 := blk_frozen BK301.out 1; have hfz16_2 := blk_frozen BK301.out 2; have hfz16_3 := blk_frozen BK301.out 3; have hfz16_4 := blk_frozen BK301.out 4; have hfz16_5 := blk_frozen BK301.out 5; have hfz16_6 := blk_frozen BK301.out 6; have hfz16_7 := blk_frozen BK301.out 7; have hfz16_8 := blk_frozen BK301.out 8; have hfz16_9 := blk_frozen BK301.out 9; have hfz16_10 := blk_frozen BK301.out 10) | ((with_reducible refine gate_callee (f := 22) rfl ?_); refine goesL_ (some 33) rfl rfl Try.func22 (by kernel_rfl) rfl #[.slice A0 l0.length c0, .string a1_2, .bool a1_4] rfl (by (try simp only [List.map_toArray, List.map_cons, List.map_nil]); first | done | rfl | (simp only [List.length_drop, List.length_take]; rfl)) ?_; (with_reducible refine (names_Switch.calls _ _ l0 a1_2 a1_4 t310 t311 _ ?side1 ?side2 A14.out).mono ?_); (case side1 => repeat (first | exact (Kd.C_below HR0.out HB.out) | (with_reducible refine Kd.C_alloc ?_ _) | (with_reducible refine Kd.C_drewN ?_ _) | (with_reducible refine Kd.C_drew ?_))); (case side2 => exact HC0.out); rintro e w17 ⟨v312, rfl, ho0, hb⟩; refine ⟨_, rfl, ?_⟩; have n0_ := Aside0.mk (Kd.S_lower ho0 (below_size (by repeat (first | (with_reducible first | exact HB.out | apply below_alloc | apply pw_below_drewN | apply below_drew1 | refine below_set ?_ GE301.out) | exact HB.out)))); have n1_ := Aside0.mk (blk_below (g := gb301) (o := .cells #[.int .i64 a1_0, .int .i64 a1_1, .string a1_2, .string a1_3, .bool a1_4, .string a1_5, .int .i64 a1_6, .bool a1_7, .int .i64 a1_8, .int .i64 a1_9, .int .i64 a1_10] 48 (0, 0)) (by (with_reducible repeat (first | refine blk_drewN ?_ _ | refine blk_drew ?_ | refine blk_alloc ?_ _)); exact BK301.out) hb); have n2_ := Aside0.mk (below_step (by repeat (first | (with_reducible first | exact HB.out | apply below_alloc | apply pw_below_drewN | apply below_drew1 | refine below_set ?_ GE301.out) | exact HB.out)) hb); clear BK301; clear HB; have HO313 := n0_; have BK301 := n1_; have HB := n2_; clear n0_ n1_ n2_; (try clear hb); (try clear hb2); (try clear hk); (try clear hi); (try clear ho0)))
    go_ret2
    exact ⟨_, by first | rfl | (simp [errW_none, errW_some] <;> rfl) | (simp [*, errW_none, errW_some] <;> rfl), by (with_reducible repeat (first | apply Kd.S_alloc | apply Kd.S_drewN | apply Kd.S_drew)); exact HO313.out, by repeat (first | (with_reducible first | exact HB.out | apply below_alloc | apply pw_below_drewN | apply below_drew1 | refine below_set ?_ GE301.out) | exact HB.out)⟩
   ·rw [if_neg c13] at H
    have c13b0 : (a1_0 == 2) = false := beq_eq_false_iff_ne.mpr c13
    have c13b1 : (a1_0 != 2) = true := bne_iff_ne.mpr c13
    by_cases c18 : a1_0 = 3
    ·rw [if_pos c18] at H
     have c18b0 : (a1_0 == 3) = true := beq_iff_eq.mpr c18
     have c18b1 : (a1_0 != 3) = false := bne_eq_false_iff_eq.mpr c18
     clear c18
     replace H := Option.bind_eq_some_iff.mp H
     obtain ⟨⟨t314, t317⟩, A190, H⟩ := H
     replace H : (some (t314, t317)) = some (r1, r2) := H
     have A19 := Aside0.mk A190
     clear A190
     simp only [Option.some.injEq, Prod.mk.injEq] at H
     obtain ⟨rfl, rfl⟩ := H
     go_enter Try.func24, Try.ntmps24
     go_wp2_with (first | ((with_reducible refine gate_dst (N := 3) rfl ?_); refine box_event ?hg (N := 3) ?hd (cs := #[.int .i64 a1_0, .int .i64 a1_1, .string a1_2, .string a1_3, .bool a1_4, .string a1_5, .int .i64 a1_6, .bool a1_7, .int .i64 a1_8, .int .i64 a1_9, .int .i64 a1_10]) (t := 48) ?hr ?_; (case hd => rfl); (case hg => rfl); (case hr => first | (go_simp; done) | (go_simp; rfl)); intro gb301 hg w20 hbox hb; have n0_ := Aside0.mk (below_step (by repeat (first | (with_reducible first | exact HB.out | apply below_alloc | apply pw_below_drewN | apply below_drew1) | exact HB.out)) hb); have n1_ := Aside0.mk (hbox); have n2_ := Aside0.mk ((by rw [hg]; exact (below_size (by repeat (first | (with_reducible first | exact HB.out | apply below_alloc | apply pw_below_drewN | apply below_drew1) | exact HB.out))) : w.heap.size ≤ gb301)); have n3_ := Aside0.mk ((by rw [hg]; exact (below_size (by repeat (first | (with_reducible first | exact HB.out | apply below_alloc | apply pw_below_drewN | apply below_drew1) | exact HB.out))) : w.heap.size ≤ gb301)); clear HB; have HB := n0_; have BK301 := n1_; have GW301 := n2_; have GE301 := n3_; clear n0_ n1_ n2_ n3_; clear hb hbox hg; have hcz21_0 : w20.cell? ⟨gb301, 0, none⟩ = some (.int .i64 a1_0) := (blk_cell BK301.out 0).trans rfl; have hcz21_1 : w20.cell? ⟨gb301, 1, none⟩ = some (.int .i64 a1_1) := (blk_cell BK301.out 1).trans rfl; have hcz21_2 : w20.cell? ⟨gb301, 2, none⟩ = some (.string a1_2) := (blk_cell BK301.out 2).trans rfl; have hcz21_3 : w20.cell? ⟨gb301, 3, none⟩ = some (.string a1_3) := (blk_cell BK301.out 3).trans rfl; have hcz21_4 : w20.cell? ⟨gb301, 4, none⟩ = some (.bool a1_4) := (blk_cell BK301.out 4).trans rfl; have hcz21_5 : w20.cell? ⟨gb301, 5, none⟩ = some (.string a1_5) := (blk_cell BK301.out 5).trans rfl; have hcz21_6 : w20.cell? ⟨gb301, 6, none⟩ = some (.int .i64 a1_6) := (blk_cell BK301.out 6).trans rfl; have hcz21_7 : w20.cell? ⟨gb301, 7, none⟩ = some (.bool a1_7) := (blk_cell BK301.out 7).trans rfl; have hcz21_8 : w20.cell? ⟨gb301, 8, none⟩ = some (.int .i64 a1_8) := (blk_cell BK301.out 8).trans rfl; have hcz21_9 : w20.cell? ⟨gb301, 9, none⟩ = some (.int .i64 a1_9) := (blk_cell BK301.out 9).trans rfl; have hcz21_10 : w20.cell? ⟨gb301, 10, none⟩ = some (.int .i64 a1_10) := (blk_cell BK301.out 10).trans rfl; have hfz21_0 := blk_frozen BK301.out 0; have hfz21_1 := blk_frozen BK301.out 1; have hfz21_2 := blk_frozen BK301.out 2; have hfz21_3 := blk_frozen BK301.out 3; have hfz21_4 := blk_frozen BK301.out 4; have hfz21_5 := blk_frozen BK301.out 5; have hfz21_6 := blk_frozen BK301.out 6; have hfz21_7 := blk_frozen BK301.out 7; have hfz21_8 := blk_frozen BK301.out 8; have hfz21_9 := blk_frozen BK301.out 9; have hfz21_10 := blk_frozen BK301.out 10) | ((with_reducible refine gate_callee (f := 18) rfl ?_); refine goesL_ (some 43) rfl rfl Try.func18 (by kernel_rfl) rfl #[.slice A0 l0.length c0, .string a1_2, .agg #[.string a1_5, .int .i64 a1_6, .bool a1_7, .int .i64 a1_8, .int .i64 a1_9, .int .i64 a1_10]] rfl (by (try simp only [List.map_toArray, List.map_cons, List.map_nil]); first | done | rfl | (simp only [List.length_drop, List.length_take]; rfl)) ?_; (with_reducible refine (names_AddToxic.calls _ _ l0 a1_2 a1_5 a1_6 a1_7 a1_8 a1_9 a1_10 t314 t317 _ ?side1 ?side2 A19.out).mono ?_); (case side1 => repeat (first | exact (Kd.C_below HR0.out HB.out) | (with_reducible refine Kd.C_alloc ?_ _) | (with_reducible refine Kd.C_drewN ?_ _) | (with_reducible refine Kd.C_drew ?_))); (case side2 => exact HC0.out); rintro e w22 ⟨v315, rfl, ho0, hb⟩; refine ⟨_, rfl, ?_⟩; have n0_ := Aside0.mk (Kd.S_lower ho0 (below_size (by repeat (first | (with_reducible first | exact HB.out | apply below_alloc | apply pw_below_drewN | apply below_drew1 | refine below_set ?_ GE301.out) | exact HB.out)))); have n1_ := Aside0.mk (blk_below (g := gb301) (o := .cells #[.int .i64 a1_0, .int .i64 a1_1, .string a1_2, .string a1_3, .bool a1_4, .string a1_5, .int .i64 a1_6, .bool a1_7, .int .i64 a1_8, .int .i64 a1_9, .int .i64 a1_10] 48 (0, 0)) (by (with_reducible repeat (first | refine blk_drewN ?_ _ | refine blk_drew ?_ | refine blk_alloc ?_ _)); exact BK301.out) hb); have n2_ := Aside0.mk (below_step (by repeat (first | (with_reducible first | exact HB.out | apply below_alloc | apply pw_below_drewN | apply below_drew1 | refine below_set ?_ GE301.out) | exact HB.out)) hb); clear BK301; clear HB; have HO316 := n0_; have BK301 := n1_; have HB := n2_; clear n0_ n1_ n2_; (try clear hb); (try clear hb2); (try clear hk); (try clear hi); (try clear ho0)))
     go_ret2
     exact ⟨_, by first | rfl | (simp [errW_none, errW_some] <;> rfl) | (simp [*, errW_none, errW_some] <;> rfl), by (with_reducible repeat (first | apply Kd.S_alloc | apply Kd.S_drewN | apply Kd.S_drew)); exact HO316.out, by repeat (first | (with_reducible first | exact HB.out | apply below_alloc | apply pw_below_drewN | apply below_drew1 | refine below_set ?_ GE301.out) | exact HB.out)⟩
    ·rw [if_neg c18] at H
     have c18b0 : (a1_0 == 3) = false := beq_eq_false_iff_ne.mpr c18
     have c18b1 : (a1_0 != 3) = true := bne_iff_ne.mpr c18
     by_cases c23 : a1_0 = 4
     ·rw [if_pos c23] at H
      have c23b0 : (a1_0 == 4) = true := beq_iff_eq.mpr c23
      have c23b1 : (a1_0 != 4) = false := bne_eq_false_iff_eq.mpr c23
      clear c23
      replace H := Option.bind_eq_some_iff.mp H
      obtain ⟨⟨t318, t319⟩, A240, H⟩ := H
      replace H : (some (t318, t319)) = some (r1, r2) := H
      have A24 := Aside0.mk A240
      clear A240
      simp only [Option.some.injEq, Prod.mk.injEq] at H
      obtain ⟨rfl, rfl⟩ := H
      go_enter Try.func24, Try.ntmps24
      go_wp2_with (first | ((with_reducible refine gate_dst (N := 3) rfl ?_); refine box_event ?hg (N := 3) ?hd (cs := #[.int .i64 a1_0, .int .i64 a1_1, .string a1_2, .string a1_3, .bool a1_4, .string a1_5, .int .i64 a1_6, .bool a1_7, .int .i64 a1_8, .int .i64 a1_9, .int .i64 a1_10]) (t := 48) ?hr ?_; (case hd => rfl); (case hg => rfl); (case hr => first | (go_simp; done) | (go_simp; rfl)); intro gb301 hg w25 hbox hb; have n0_ := Aside0.mk (below_step (by repeat (first | (with_reducible first | exact HB.out | apply below_alloc | apply pw_below_drewN | apply below_drew1) | exact HB.out)) hb); have n1_ := Aside0.mk (hbox); have n2_ := Aside0.mk ((by rw [hg]; exact (below_size (by repeat (first | (with_reducible first | exact HB.out | apply below_alloc | apply pw_below_drewN | apply below_drew1) | exact HB.out))) : w.heap.size ≤ gb301)); have n3_ := Aside0.mk ((by rw [hg]; exact (below_size (by repeat (first | (with_reducible first | exact HB.out | apply below_alloc | apply pw_below_drewN | apply below_drew1) | exact HB.out))) : w.heap.size ≤ gb301)); clear HB; have HB := n0_; have BK301 := n1_; have GW301 := n2_; have GE301 := n3_; clear n0_ n1_ n2_ n3_; clear hb hbox hg; have hcz26_0 : w25.cell? ⟨gb301, 0, none⟩ = some (.int .i64 a1_0) := (blk_cell BK301.out 0).trans rfl; have hcz26_1 : w25.cell? ⟨gb301, 1, none⟩ = some (.int .i64 a1_1) := (blk_cell BK301.out 1).trans rfl; have hcz26_2 : w25.cell? ⟨gb301, 2, none⟩ = some (.string a1_2) := (blk_cell BK301.out 2).trans rfl; have hcz26_3 : w25.cell? ⟨gb301, 3, none⟩ = some (.string a1_3) := (blk_cell BK301.out 3).trans rfl; have hcz26_4 : w25.cell? ⟨gb301, 4, none⟩ = some (.bool a1_4) := (blk_cell BK301.out 4).trans rfl; have hcz26_5 : w25.cell? ⟨gb301, 5, none⟩ = some (.string a1_5) := (blk_cell BK301.out 5).trans rfl; have hcz26_6 : w25.cell? ⟨gb301, 6, none⟩ = some (.int .i64 a1_6) := (blk_cell BK301.out 6).trans rfl; have hcz26_7 : w25.cell? ⟨gb301, 7, none⟩ = some (.bool a1_7) := (blk_cell BK301.out 7).trans rfl; have hcz26_8 : w25.cell? ⟨gb301, 8, none⟩ = some (.int .i64 a1_8) := (blk_cell BK301.out 8).trans rfl; have hcz26_9 : w25.cell? ⟨gb301, 9, none⟩ = some (.int .i64 a1_9) := (blk_cell BK301.out 9).trans rfl; have hcz26_10 : w25.cell? ⟨gb301, 10, none⟩ = some (.int .i64 a1_10) := (blk_cell BK301.out 10).trans rfl; have hfz26_0 := blk_frozen BK301.out 0; have hfz26_1 := blk_frozen BK301.out 1; have hfz26_2 := blk_frozen BK301.out 2; have hfz26_3 := blk_frozen BK301.out 3; have hfz26_4 := blk_frozen BK301.out 4; have hfz26_5 := blk_frozen BK301.out 5; have hfz26_6 := blk_frozen BK301.out 6; have hfz26_7 := blk_frozen BK301.out 7; have hfz26_8 := blk_frozen BK301.out 8; have hfz26_9 := blk_frozen BK301.out 9; have hfz26_10 := blk_frozen BK301.out 10) | ((with_reducible refine gate_callee (f := 19) rfl ?_); refine goesL_ (some 53) rfl rfl Try.func19 (by kernel_rfl) rfl #[.slice A0 l0.length c0, .string a1_2, .string a1_3] rfl (by (try simp only [List.map_toArray, List.map_cons, List.map_nil]); first | done | rfl | (simp only [List.length_drop, List.length_take]; rfl)) ?_; (with_reducible refine (names_DropToxic.calls _ _ l0 a1_2 a1_3 t318 t319 _ ?side1 ?side2 A24.out).mono ?_); (case side1 => repeat (first | exact (Kd.C_below HR0.out HB.out) | (with_reducible refine Kd.C_alloc ?_ _) | (with_reducible refine Kd.C_drewN ?_ _) | (with_reducible refine Kd.C_drew ?_))); (case side2 => exact HC0.out); rintro e w27 ⟨v320, rfl, ho0, hb⟩; refine ⟨_, rfl, ?_⟩; have n0_ := Aside0.mk (Kd.S_lower ho0 (below_size (by repeat (first | (with_reducible first | exact HB.out | apply below_alloc | apply pw_below_drewN | apply below_drew1 | refine below_set ?_ GE301.out) | exact HB.out)))); have n1_ := Aside0.mk (blk_below (g := gb301) (o := .cells #[.int .i64 a1_0, .int .i64 a1_1, .string a1_2, .string a1_3, .bool a1_4, .string a1_5, .int .i64 a1_6, .bool a1_7, .int .i64 a1_8, .int .i64 a1_9, .int .i64 a1_10] 48 (0, 0)) (by (with_reducible repeat (first | refine blk_drewN ?_ _ | refine blk_drew ?_ | refine blk_alloc ?_ _)); exact BK301.out) hb); have n2_ := Aside0.mk (below_step (by repeat (first | (with_reducible first | exact HB.out | apply below_alloc | apply pw_below_drewN | apply below_drew1 | refine below_set ?_ GE301.out) | exact HB.out)) hb); clear BK301; clear HB; have HO321 := n0_; have BK301 := n1_; have HB := n2_; clear n0_ n1_ n2_; (try clear hb); (try clear hb2); (try clear hk); (try clear hi); (try clear ho0)))
      go_ret2
      exact ⟨_, by first | rfl | (simp [errW_none, errW_some] <;> rfl) | (simp [*, errW_none, errW_some] <;> rfl), by (with_reducible repeat (first | apply Kd.S_alloc | apply Kd.S_drewN | apply Kd.S_drew)); exact HO321.out, by repeat (first | (with_reducible first | exact HB.out | apply below_alloc | apply pw_below_drewN | apply below_drew1 | refine below_set ?_ GE301.out) | exact HB.out)⟩
     ·rw [if_neg c23] at H
      have c23b0 : (a1_0 == 4) = false := beq_eq_false_iff_ne.mpr c23
      have c23b1 : (a1_0 != 4) = true := bne_iff_ne.mpr c23
      by_cases c28 : a1_0 = 5
      ·rw [if_pos c28] at H
       have c28b0 : (a1_0 == 5) = true := beq_iff_eq.mpr c28
       have c28b1 : (a1_0 != 5) = false := bne_eq_false_iff_eq.mpr c28
       clear c28
       replace H := Option.bind_eq_some_iff.mp H
       obtain ⟨⟨t322, t325⟩, A290, H⟩ := H
       replace H : (some (t322, t325)) = some (r1, r2) := H
       have A29 := Aside0.mk A290
       clear A290
       simp only [Option.some.injEq, Prod.mk.injEq] at H
       obtain ⟨rfl, rfl⟩ := H
       go_enter Try.func24, Try.ntmps24
       go_wp2_with (first | ((with_reducible refine gate_dst (N := 3) rfl ?_); refine box_event ?hg (N := 3) ?hd (cs := #[.int .i64 a1_0, .int .i64 a1_1, .string a1_2, .string a1_3, .bool a1_4, .string a1_5, .int .i64 a1_6, .bool a1_7, .int .i64 a1_8, .int .i64 a1_9, .int .i64 a1_10]) (t := 48) ?hr ?_; (case hd => rfl); (case hg => rfl); (case hr => first | (go_simp; done) | (go_simp; rfl)); intro gb301 hg w30 hbox hb; have n0_ := Aside0.mk (below_step (by repeat (first | (with_reducible first | exact HB.out | apply below_alloc | apply pw_below_drewN | apply below_drew1) | exact HB.out)) hb); have n1_ := Aside0.mk (hbox); have n2_ := Aside0.mk ((by rw [hg]; exact (below_size (by repeat (first | (with_reducible first | exact HB.out | apply below_alloc | apply pw_below_drewN | apply below_drew1) | exact HB.out))) : w.heap.size ≤ gb301)); have n3_ := Aside0.mk ((by rw [hg]; exact (below_size (by repeat (first | (with_reducible first | exact HB.out | apply below_alloc | apply pw_below_drewN | apply below_drew1) | exact HB.out))) : w.heap.size ≤ gb301)); clear HB; have HB := n0_; have BK301 := n1_; have GW301 := n2_; have GE301 := n3_; clear n0_ n1_ n2_ n3_; clear hb hbox hg; have hcz31_0 : w30.cell? ⟨gb301, 0, none⟩ = some (.int .i64 a1_0) := (blk_cell BK301.out 0).trans rfl; have hcz31_1 : w30.cell? ⟨gb301, 1, none⟩ = some (.int .i64 a1_1) := (blk_cell BK301.out 1).trans rfl; have hcz31_2 : w30.cell? ⟨gb301, 2, none⟩ = some (.string a1_2) := (blk_cell BK301.out 2).trans rfl; have hcz31_3 : w30.cell? ⟨gb301, 3, none⟩ = some (.string a1_3) := (blk_cell BK301.out 3).trans rfl; have hcz31_4 : w30.cell? ⟨gb301, 4, none⟩ = some (.bool a1_4) := (blk_cell BK301.out 4).trans rfl; have hcz31_5 : w30.cell? ⟨gb301, 5, none⟩ = some (.string a1_5) := (blk_cell BK301.out 5).trans rfl; have hcz31_6 : w30.cell? ⟨gb301, 6, none⟩ = some (.int .i64 a1_6) := (blk_cell BK301.out 6).trans rfl; have hcz31_7 : w30.cell? ⟨gb301, 7, none⟩ = some (.bool a1_7) := (blk_cell BK301.out 7).trans rfl; have hcz31_8 : w30.cell? ⟨gb301, 8, none⟩ = some (.int .i64 a1_8) := (blk_cell BK301.out 8).trans rfl; have hcz31_9 : w30.cell? ⟨gb301, 9, none⟩ = some (.int .i64 a1_9) := (blk_cell BK301.out 9).trans rfl; have hcz31_10 : w30.cell? ⟨gb301, 10, none⟩ = some (.int .i64 a1_10) := (blk_cell BK301.out 10).trans rfl; have hfz31_0 := blk_frozen BK301.out 0; have hfz31_1 := blk_frozen BK301.out 1; have hfz31_2 := blk_frozen BK301.out 2; have hfz31_3 := blk_frozen BK301.out 3; have hfz31_4 := blk_frozen BK301.out 4; have hfz31_5 := blk_frozen BK301.out 5; have hfz31_6 := blk_frozen BK301.out 6; have hfz31_7 := blk_frozen BK301.out 7; have hfz31_8 := blk_frozen BK301.out 8; have hfz31_9 := blk_frozen BK301.out 9; have hfz31_10 := blk_frozen BK301.out 10) | ((with_reducible refine gate_callee (f := 55) rfl ?_); refine goesL_ (some 63) rfl rfl Try.func55 (by kernel_rfl) rfl #[.slice A0 l0.length c0, .string a1_2, .agg #[.string a1_5, .int .i64 a1_6, .bool a1_7, .int .i64 a1_8, .int .i64 a1_9, .int .i64 a1_10]] rfl (by (try simp only [List.map_toArray, List.map_cons, List.map_nil]); first | done | rfl | (simp only [List.length_drop, List.length_take]; rfl)) ?_; (with_reducible refine (names_SetToxic.calls _ _ l0 a1_2 a1_5 a1_6 a1_7 a1_8 a1_9 a1_10 t322 t325 _ ?side1 ?side2 A29.out).mono ?_); (case side1 => repeat (first | exact (Kd.C_below HR0.out HB.out) | (with_reducible refine Kd.C_alloc ?_ _) | (with_reducible refine Kd.C_drewN ?_ _) | (with_reducible refine Kd.C_drew ?_))); (case side2 => exact HC0.out); rintro e w32 ⟨v323, rfl, ho0, hb⟩; refine ⟨_, rfl, ?_⟩; have n0_ := Aside0.mk (Kd.S_lower ho0 (below_size (by repeat (first | (with_reducible first | exact HB.out | apply below_alloc | apply pw_below_drewN | apply below_drew1 | refine below_set ?_ GE301.out) | exact HB.out)))); have n1_ := Aside0.mk (blk_below (g := gb301) (o := .cells #[.int .i64 a1_0, .int .i64 a1_1, .string a1_2, .string a1_3, .bool a1_4, .string a1_5, .int .i64 a1_6, .bool a1_7, .int .i64 a1_8, .int .i64 a1_9, .int .i64 a1_10] 48 (0, 0)) (by (with_reducible repeat (first | refine blk_drewN ?_ _ | refine blk_drew ?_ | refine blk_alloc ?_ _)); exact BK301.out) hb); have n2_ := Aside0.mk (below_step (by repeat (first | (with_reducible first | exact HB.out | apply below_alloc | apply pw_below_drewN | apply below_drew1 | refine below_set ?_ GE301.out) | exact HB.out)) hb); clear BK301; clear HB; have HO324 := n0_; have BK301 := n1_; have HB := n2_; clear n0_ n1_ n2_; (try clear hb); (try clear hb2); (try clear hk); (try clear hi); (try clear ho0)))
       go_ret2
       exact ⟨_, by first | rfl | (simp [errW_none, errW_some] <;> rfl) | (simp [*, errW_none, errW_some] <;> rfl), by (with_reducible repeat (first | apply Kd.S_alloc | apply Kd.S_drewN | apply Kd.S_drew)); exact HO324.out, by repeat (first | (with_reducible first | exact HB.out | apply below_alloc | apply pw_below_drewN | apply below_drew1 | refine below_set ?_ GE301.out) | exact HB.out)⟩
      ·rw [if_neg c28] at H
       have c28b0 : (a1_0 == 5) = false := beq_eq_false_iff_ne.mpr c28
       have c28b1 : (a1_0 != 5) = true := bne_iff_ne.mpr c28
       replace H := Option.bind_eq_some_iff.mp H
       obtain ⟨t326, A330, H⟩ := H
       replace H : (some (t326, 0)) = some (r1, r2) := H
       have A33 := Aside0.mk A330
       clear A330
       simp only [Option.some.injEq, Prod.mk.injEq] at H
       obtain ⟨rfl, rfl⟩ := H
       go_enter Try.func24, Try.ntmps24
       go_wp2_with (first | ((with_reducible refine gate_dst (N := 3) rfl ?_); refine box_event ?hg (N := 3) ?hd (cs := #[.int .i64 a1_0, .int .i64 a1_1, .string a1_2, .string a1_3, .bool a1_4, .string a1_5, .int .i64 a1_6, .bool a1_7, .int .i64 a1_8, .int .i64 a1_9, .int .i64 a1_10]) (t := 48) ?hr ?_; (case hd => rfl); (case hg => rfl); (case hr => first | (go_simp; done) | (go_simp; rfl)); intro gb301 hg w34 hbox hb; have n0_ := Aside0.mk (below_step (by repeat (first | (with_reducible first | exact HB.out | apply below_alloc | apply pw_below_drewN | apply below_drew1) | exact HB.out)) hb); have n1_ := Aside0.mk (hbox); have n2_ := Aside0.mk ((by rw [hg]; exact (below_size (by repeat (first | (with_reducible first | exact HB.out | apply below_alloc | apply pw_below_drewN | apply below_drew1) | exact HB.out))) : w.heap.size ≤ gb301)); have n3_ := Aside0.mk ((by rw [hg]; exact (below_size (by repeat (first | (with_reducible first | exact HB.out | apply below_alloc | apply pw_below_drewN | apply below_drew1) | exact HB.out))) : w.heap.size ≤ gb301)); clear HB; have HB := n0_; have BK301 := n1_; have GW301 := n2_; have GE301 := n3_; clear n0_ n1_ n2_ n3_; clear hb hbox hg; have hcz35_0 : w34.cell? ⟨gb301, 0, none⟩ = some (.int .i64 a1_0) := (blk_cell BK301.out 0).trans rfl; have hcz35_1 : w34.cell? ⟨gb301, 1, none⟩ = some (.int .i64 a1_1) := (blk_cell BK301.out 1).trans rfl; have hcz35_2 : w34.cell? ⟨gb301, 2, none⟩ = some (.string a1_2) := (blk_cell BK301.out 2).trans rfl; have hcz35_3 : w34.cell? ⟨gb301, 3, none⟩ = some (.string a1_3) := (blk_cell BK301.out 3).trans rfl; have hcz35_4 : w34.cell? ⟨gb301, 4, none⟩ = some (.bool a1_4) := (blk_cell BK301.out 4).trans rfl; have hcz35_5 : w34.cell? ⟨gb301, 5, none⟩ = some (.string a1_5) := (blk_cell BK301.out 5).trans rfl; have hcz35_6 : w34.cell? ⟨gb301, 6, none⟩ = some (.int .i64 a1_6) := (blk_cell BK301.out 6).trans rfl; have hcz35_7 : w34.cell? ⟨gb301, 7, none⟩ = some (.bool a1_7) := (blk_cell BK301.out 7).trans rfl; have hcz35_8 : w34.cell? ⟨gb301, 8, none⟩ = some (.int .i64 a1_8) := (blk_cell BK301.out 8).trans rfl; have hcz35_9 : w34.cell? ⟨gb301, 9, none⟩ = some (.int .i64 a1_9) := (blk_cell BK301.out 9).trans rfl; have hcz35_10 : w34.cell? ⟨gb301, 10, none⟩ = some (.int .i64 a1_10) := (blk_cell BK301.out 10).trans rfl; have hfz35_0 := blk_frozen BK301.out 0; have hfz35_1 := blk_frozen BK301.out 1; have hfz35_2 := blk_frozen BK301.out 2; have hfz35_3 := blk_frozen BK301.out 3; have hfz35_4 := blk_frozen BK301.out 4; have hfz35_5 := blk_frozen BK301.out 5; have hfz35_6 := blk_frozen BK301.out 6; have hfz35_7 := blk_frozen BK301.out 7; have hfz35_8 := blk_frozen BK301.out 8; have hfz35_9 := blk_frozen BK301.out 9; have hfz35_10 := blk_frozen BK301.out 10) | ((with_reducible refine gate_callee (f := 56) rfl ?_); refine goesL_ (some 67) rfl rfl Try.func56 (by kernel_rfl) rfl #[.slice A0 l0.length c0] rfl (by (try simp only [List.map_toArray, List.map_cons, List.map_nil]); first | done | rfl | (simp only [List.length_drop, List.length_take]; rfl)) ?_; (with_reducible refine (names_Reset.calls k _ _ l0 t326 _ ?side1 ?side2 A33.out).mono ?_); (case side1 => repeat (first | exact (Kd.C_below HR0.out HB.out) | (with_reducible refine Kd.C_alloc ?_ _) | (with_reducible refine Kd.C_drewN ?_ _) | (with_reducible refine Kd.C_drew ?_))); (case side2 => exact HC0.out); rintro e w36 ⟨v327, rfl, ho0, hb⟩; refine ⟨_, rfl, ?_⟩; have n0_ := Aside0.mk (Kd.S_lower ho0 (below_size (by repeat (first | (with_reducible first | exact HB.out | apply below_alloc | apply pw_below_drewN | apply below_drew1 | refine below_set ?_ GE301.out) | exact HB.out)))); have n1_ := Aside0.mk (blk_below (g := gb301) (o := .cells #[.int .i64 a1_0, .int .i64 a1_1, .string a1_2, .string a1_3, .bool a1_4, .string a1_5, .int .i64 a1_6, .bool a1_7, .int .i64 a1_8, .int .i64 a1_9, .int .i64 a1_10] 48 (0, 0)) (by (with_reducible repeat (first | refine blk_drewN ?_ _ | refine blk_drew ?_ | refine blk_alloc ?_ _)); exact BK301.out) hb); have n2_ := Aside0.mk (below_step (by repeat (first | (with_reducible first | exact HB.out | apply below_alloc | apply pw_below_drewN | apply below_drew1 | refine below_set ?_ GE301.out) | exact HB.out)) hb); clear BK301; clear HB; have HO328 := n0_; have BK301 := n1_; have HB := n2_; clear n0_ n1_ n2_; (try clear hb); (try clear hb2); (try clear hk); (try clear hi); (try clear ho0)))
       go_ret2
       exact ⟨_, by first | rfl | (simp [errW_none, errW_some] <;> rfl) | (simp [*, errW_none, errW_some] <;> rfl), by (with_reducible repeat (first | apply Kd.S_alloc | apply Kd.S_drewN | apply Kd.S_drew)); exact HO328.out, by repeat (first | (with_reducible first | exact HB.out | apply below_alloc | apply pw_below_drewN | apply below_drew1 | refine below_set ?_ GE301.out) | exact HB.out)⟩
end Go.Proofs.Ytlglbpjccpdloaa.PNamA
set_option linter.unusedVariables false
set_option linter.unusedSimpArgs false
namespace Go.Proofs.Ytlglbpjccpdloaa.Ext
open Go.RowKit Go.Proofs.Ytlglbpjccpdloaa.PNamA Go.Proofs.Ytlglbpjccpdloaa.Tox Go.Proofs.Ytlglbpjccpdloaa.ToxZ Go.Proofs.YtlglbpjccpdloaaW.PrintWords Go.Proofs.YtlglbpjccpdloaaW.PrintLast
def resetP (x : S24) : S24 := ⟨x.f0, true, x.f2, []⟩
def resetOf (l : List S24) : List S24 := if rightB l then l.map resetP else []
theorem set_mid {α : Type} (A B : List α) (x b : α) (i : Nat) (h : A.length = i) : (A ++ x :: B).set i b = A ++ b :: B := by
  subst h
  simp
theorem rd_mid (A B : List S24) (x : S24) (i : Nat) (h : A.length = i) : rd_T24 (A ++ x :: B) (i : Int) = x := by
  subst h
  simp [rd_T24]
theorem reset_l0 (l : List S24) (hm : l.length ≤ 1000000) (k : Nat) : ∀ (n i : Nat), l.length - i = n → i ≤ l.length →
    names_Reset.l0 (k + n + 1) ((l.take i).map resetP ++ l.drop i) (l.length : Int) (i : Int) = some (l.map resetP) := by
  intro n
  induction n with
  | zero =>
    intro i hn hi
    unfold names_Reset.l0
    rw [if_neg (by omega), List.drop_eq_nil_of_le (by omega), List.take_of_length_le (by omega), List.append_nil]
  | succ n ih =>
    intro i hn hi
    have hl : i < l.length := by omega
    have hA : ((l.take i).map resetP).length = i := by rw [List.length_map, List.length_take]; omega
    have ht : (l.take (i + 1)).map resetP ++ l.drop (i + 1) = (l.take i).map resetP ++ resetP l[i] :: l.drop (i + 1) := by
      rw [List.take_add_one, List.getElem?_eq_getElem hl]
      show ((l.take i ++ [l[i]]).map resetP) ++ _ = _
      rw [List.map_append, List.append_assoc]
      rfl
    have h1 := ih (i + 1) (by omega) (by omega)
    rw [ht] at h1
    rw [show k + (n + 1) + 1 = (k + n + 1) + 1 by omega]
    unfold names_Reset.l0
    rw [List.drop_eq_getElem_cons hl]
    rw [if_pos (by omega), if_pos (by omega), if_pos (by rw [List.length_append, hA, List.length_cons, List.length_drop]; omega), Option.bind_some, rd_mid _ _ _ i hA, Int.toNat_natCast, set_mid _ _ _ _ i hA, rd_mid _ _ _ i hA, set_mid _ _ _ _ i hA, show wrap64 ((i : Int) + 1) = ((i + 1 : Nat) : Int) by rw [w64_in' _ (by omega) (by omega)]; rfl]
    exact h1
theorem reset_is (l : List S24) (hm : l.length ≤ 4611686018427387904) (k : Nat) (hk : l.length + 22 ≤ k) : names_Reset.f k l = some (resetOf l) := by
  unfold names_Reset.f resetOf
  rw [right_is' l hm k hk, Option.bind_some]
  cases hr : rightB l with
  | false => rfl
  | true =>
    rw [if_pos rfl, if_pos rfl]
    simp only [names_own.f, if_pos (right_small hr), Option.bind_some]
    have h8 := (right_len hr).1
    have := reset_l0 l (by omega) (k - l.length - 1) l.length 0 (by omega) (by omega)
    rw [show k - l.length - 1 + l.length + 1 = k by omega] at this
    exact this
def doOf (l : List S24) (k n : Int) (s t : ByteArray) (on : Bool) (tx : S39) : List S24 × Int :=
  if k = 0 then addOf l s n else if k = 1 then dropOf l s else if k = 2 then changeOf (onT on) l s else if k = 3 then changeOf (addT tx) l s
  else if k = 4 then changeOf (dropT t) l s else if k = 5 then changeOf (setT tx) l s else (resetOf l, 0)
theorem does_is (l : List S24) (hm : l.length ≤ 4611686018427387904) (f : Nat) (hf : l.length + 22 ≤ f) (k n : Int) (s t : ByteArray) (on : Bool) (t0 : ByteArray) (t1 : Int) (t2 : Bool) (t3 t4 t5 : Int) :
    chicanelaw14_does.f f l k n s t on t0 t1 t2 t3 t4 t5 = some (doOf l k n s t on ⟨t0, t1, t2, t3, t4, t5⟩) := by
  unfold chicanelaw14_does.f doOf
  simp only [names_Add.f, names_Drop.f, names_Switch.f, names_AddToxic.f, names_DropToxic.f, names_SetToxic.f, if_pos hm, Option.bind_some, reset_is l hm f hf]
  repeat' split
  all_goals rfl
def lowP (l : List S24) : Prop := l.length ≤ 9 ∧ ∀ x ∈ l, x.f3.length ≤ 9
theorem low_right {l : List S24} (h : rightB l = true) : lowP l := by
  have h2 := right_len h
  exact ⟨by omega, fun x hx => by have := chk_len (h2.2 x hx); omega⟩
theorem low_change (T : S24 → PT) (hT : ∀ x, x.f3.length ≤ 8 → (T x).1.f3.length ≤ 9) {l : List S24} (h : rightB l = true) (s : ByteArray) : lowP (changeOf T l s).1 := by
  have hl := low_right h
  by_cases hp : place (namesP l) s < 0
  · rw [change_no T h hp]; exact hl
  · obtain ⟨k, x, hk, hx, hs⟩ := place_at hp
    rw [change_at T h hk hx]
    refine ⟨by rw [List.length_set]; exact hl.1, fun y hy => ?_⟩
    rcases List.mem_or_eq_of_mem_set hy with hy | hy
    · exact hl.2 y hy
    · rw [hy]; exact hT x (chk_len ((right_len h).2 x (List.mem_of_getElem? hx)))
theorem low_do {l : List S24} (h : rightB l = true) (k n : Int) (s t : ByteArray) (on : Bool) (tx : S39) : lowP (doOf l k n s t on tx).1 := by
  have hl := low_right h
  have h8 := (right_len h).1
  unfold doOf
  split
  · unfold addOf
    rw [if_pos h]
    repeat' split
    all_goals first
      | exact hl
      | (have hp := insP_perm (⟨s, true, n, []⟩ : S24) l
         refine ⟨by rw [show (insP ⟨s, true, n, []⟩ l, (0 : Int)).1.length = _ from hp.length_eq]; simp; omega, fun x hx => ?_⟩
         rcases List.mem_cons.1 (hp.mem_iff.1 hx) with hx | hx
         · rw [hx]; simp
         · exact hl.2 x hx)
  · split
    · unfold dropOf
      rw [if_pos h]
      split
      · exact hl
      · exact ⟨Nat.le_trans (List.length_eraseIdx_le _ _) hl.1, fun x hx => hl.2 x (List.mem_of_mem_eraseIdx hx)⟩
    · split
      · exact low_change _ (fun x hx => by show x.f3.length ≤ 9; omega) h s
      · split
        · refine low_change _ (fun x hx => ?_) h s
          unfold addT
          repeat' split
          all_goals simp
          all_goals omega
        · split
          · refine low_change _ (fun x hx => ?_) h s
            unfold dropT
            split
            · simp; omega
            · have := List.length_eraseIdx_le x.f3 (place (namesT x.f3) t).toNat
              simp only
              omega
          · split
            · refine low_change _ (fun x hx => ?_) h s
              unfold setT
              repeat' split
              all_goals simp
              all_goals omega
            · unfold resetOf
              rw [if_pos h]
              refine ⟨by simp; omega, fun x hx => ?_⟩
              obtain ⟨y, _, rfl⟩ := List.mem_map.1 hx
              simp [resetP]
end Go.Proofs.Ytlglbpjccpdloaa.Ext
set_option linter.unusedVariables false
namespace Go.Proofs.Ytlglbpjccpdloaa.NmLaw
open Go.Proofs.Ytlglbpjccpdloaa.PNamA
set_option maxRecDepth 100000 in
theorem alive_100 : chicanelaw14_alive.f 100 = some true := by kernel_rfl
theorem alive_is (k : Nat) (hk : 100 ≤ k) : chicanelaw14_alive.f k = some true := by
  obtain ⟨m, rfl⟩ : ∃ m, k = 100 + m := ⟨k - 100, by omega⟩
  induction m with
  | zero => exact alive_100
  | succ m ih => exact chicanelaw14_alive.mono _ _ (ih (by omega))
end Go.Proofs.Ytlglbpjccpdloaa.NmLaw
namespace Go.Proofs.Ytlglbpjccpdloaa.PNamA
open Go.Proofs.Ytlglbpjccpdloaa.Ext Go.Proofs.Ytlglbpjccpdloaa.ToxZ Go.RowKit Go.Proofs.YtlglbpjccpdloaaW.PrintWords Go.Proofs.YtlglbpjccpdloaaW.PrintLast Go.Proofs.YtlglbpjccpdloaaW.PrintMore
attribute [local go_sem] max2_int min2_int max_two min_two max_three min_three max_four min_four   -- for this text's walks alone
set_option linter.unusedVariables false
set_option linter.unusedSimpArgs false
theorem own_apart {w Wc w4 : World} {v5 v8 : Value} {xs ys : List S24} {ok : Nat → Prop} (h5 : Kd.S k24 24 Wc w.heap.size ok v5 xs) (h8 : Kd.S k24 24 w4 Wc.heap.size (fun _ => True) v8 ys) (hb : Below Wc.heap.size Wc w4) (hle : w.heap.size ≤ Wc.heap.size) :
  ∃ NN : Nat, Kd.S k24 24 w4 w.heap.size (fun k_ => k_ < NN) v5 xs ∧ Kd.S k24 24 w4 w.heap.size (fun k_ => NN ≤ k_) v8 ys :=
 ⟨Wc.heap.size, Kd.S_mono (Kd.S_below (Kd.S_bound h5) hb) (fun _ hk => hk.2.2.1), Kd.S_mono (Kd.S_lower (Kd.S_bound h8) hle) (fun _ hk => hk.2.1)⟩
mutual
def chicanelaw14_NamesOwn.j0 : Nat → List (S24) → Bool → Int → Int → ByteArray → ByteArray → Bool → ByteArray → Int → Bool → Int → Int → Int → Option (Bool)
 | 0, _, _, _, _, _, _, _, _, _, _, _, _, _ => none
 | k + 1, x0, x24, x330000, x330001, x330002, x330003, x330004, x330005, x330006, x330007, x330008, x330009, x330010 => if x24 = true then ((chicanelaw14_alive.f k).bind fun t333 => (some t333)) else (chicanelaw14_NamesOwn.l0 k x0 ([] : List (S24)) x0 (x0.length : Int) 0 x330000 x330001 x330002 x330003 x330004 x330005 x330006 x330007 x330008 x330009 x330010)
def chicanelaw14_NamesOwn.l0 : Nat → List (S24) → List (S24) → List (S24) → Int → Int → Int → Int → ByteArray → ByteArray → Bool → ByteArray → Int → Bool → Int → Int → Int → Option (Bool)
 | 0, _, _, _, _, _, _, _, _, _, _, _, _, _, _, _, _ => none
 | k + 1, x0, x5, x26, x27, x28, x330000, x330001, x330002, x330003, x330004, x330005, x330006, x330007, x330008, x330009, x330010 => if x28 < x27 then (if 0 ≤ x28 then (if x28 < (x26.length : Int) then ((some (([] : List (S39)) : List (S39))).bind fun y336 => (if y336.length + ((rd_T24 x26 x28).f3).length < 2513169434916 then (if x5.length < 2513169434916 then (chicanelaw14_NamesOwn.l0 k x0 (x5 ++ [(⟨(rd_T24 x26 x28).f0, (rd_T24 x26 x28).f1, (rd_T24 x26 x28).f2, (y336 ++ ((rd_T24 x26 x28).f3))⟩ : S24)]) x26 x27 (wrap64 (x28 + 1)) x330000 x330001 x330002 x330003 x330004 x330005 x330006 x330007 x330008 x330009 x330010) else (none)) else (none))) else (none)) else (none)) else ((chicanelaw14_does.f k x0 x330000 x330001 x330002 x330003 x330004 x330005 x330006 x330007 x330008 x330009 x330010).bind fun bt345 => (chicanelaw14_NamesOwn.l1 k x0 x5 bt345.1 (bt345.1.length : Int) 0))
def chicanelaw14_NamesOwn.l1 : Nat → List (S24) → List (S24) → List (S24) → Int → Int → Option (Bool)
 | 0, _, _, _, _, _ => none
 | k + 1, x0, x5, x8, x49, x50 => if x50 < x49 then (if 0 ≤ x50 then (if x50 < (x8.length : Int) then ((some (x8.set (x50 : Int).toNat (⟨(rd_T24 x8 x50).f0, (rd_T24 x8 x50).f1, 1, (rd_T24 x8 x50).f3⟩ : S24) : List (S24))).bind fun y351 => (chicanelaw14_NamesOwn.l2 k x0 x5 y351 x50 x49 x50 (((rd_T24 y351 x50).f3).length : Int) 0)) else (none)) else (none)) else ((chicanelaw14_alive.f k).bind fun t349 => (if t349 = true then ((chicaneref14_Same.f k x0 x5).bind fun t350 => (some t350)) else (some false)))
def chicanelaw14_NamesOwn.l2 : Nat → List (S24) → List (S24) → List (S24) → Int → Int → Int → Int → Int → Option (Bool)
 | 0, _, _, _, _, _, _, _, _ => none
 | k + 1, x0, x5, x8, x10, x49, x50, x62, x63 => if x63 < x62 then (if 0 ≤ x10 then (if x10 < (x8.length : Int) then (if 0 ≤ x63 then (if x63 < (((rd_T24 x8 x10).f3).length : Int) then (chicanelaw14_NamesOwn.l2 k x0 x5 (x8.set (x10 : Int).toNat (⟨(rd_T24 x8 x10).f0, (rd_T24 x8 x10).f1, (rd_T24 x8 x10).f2, (((rd_T24 x8 x10).f3).set (x63 : Int).toNat (⟨(rd_T39 ((rd_T24 x8 x10).f3) x63).f0, (rd_T39 ((rd_T24 x8 x10).f3) x63).f1, (rd_T39 ((rd_T24 x8 x10).f3) x63).f2, (rd_T39 ((rd_T24 x8 x10).f3) x63).f3, wrap64 (((rd_T39 ((rd_T24 x8 x10).f3) x63).f4) + 1), (rd_T39 ((rd_T24 x8 x10).f3) x63).f5⟩ : S39))⟩ : S24)) x10 x49 x50 x62 (wrap64 (x63 + 1))) else (none)) else (none)) else (none)) else (none)) else (chicanelaw14_NamesOwn.l1 k x0 x5 x8 x49 (wrap64 (x50 + 1)))
end
def chicanelaw14_NamesOwn.f (k : Nat) (l0 : List (S24)) (a1_0 : Int) (a1_1 : Int) (a1_2 : ByteArray) (a1_3 : ByteArray) (a1_4 : Bool) (a1_5 : ByteArray) (a1_6 : Int) (a1_7 : Bool) (a1_8 : Int) (a1_9 : Int) (a1_10 : Int) : Option (Bool) := (chicanelaw14_few.f k l0).bind fun t330 => (if t330 = true then ((chicanelaw14_kind.f a1_0 a1_1 a1_2 a1_3 a1_4 a1_5 a1_6 a1_7 a1_8 a1_9 a1_10).bind fun t331 => (if t331 = true then ((chicaneref14_Right.f k l0).bind fun t332 => (chicanelaw14_NamesOwn.j0 k l0 (!t332) a1_0 a1_1 a1_2 a1_3 a1_4 a1_5 a1_6 a1_7 a1_8 a1_9 a1_10)) else (chicanelaw14_NamesOwn.j0 k l0 true a1_0 a1_1 a1_2 a1_3 a1_4 a1_5 a1_6 a1_7 a1_8 a1_9 a1_10))) else (chicanelaw14_NamesOwn.j0 k l0 true a1_0 a1_1 a1_2 a1_3 a1_4 a1_5 a1_6 a1_7 a1_8 a1_9 a1_10))
theorem chicanelaw14_NamesOwn.mono_l : ∀ k, (∀ y0 y1 y2 y3 y4 y5 y6 y7 y8 y9 y10 y11 y12, LeO (chicanelaw14_NamesOwn.j0 k y0 y1 y2 y3 y4 y5 y6 y7 y8 y9 y10 y11 y12) (chicanelaw14_NamesOwn.j0 (k + 1) y0 y1 y2 y3 y4 y5 y6 y7 y8 y9 y10 y11 y12)) ∧ (∀ y0 y1 y2 y3 y4 y5 y6 y7 y8 y9 y10 y11 y12 y13 y14 y15, LeO (chicanelaw14_NamesOwn.l0 k y0 y1 y2 y3 y4 y5 y6 y7 y8 y9 y10 y11 y12 y13 y14 y15) (chicanelaw14_NamesOwn.l0 (k + 1) y0 y1 y2 y3 y4 y5 y6 y7 y8 y9 y10 y11 y12 y13 y14 y15)) ∧ (∀ y0 y1 y2 y3 y4, LeO (chicanelaw14_NamesOwn.l1 k y0 y1 y2 y3 y4) (chicanelaw14_NamesOwn.l1 (k + 1) y0 y1 y2 y3 y4)) ∧ (∀ y0 y1 y2 y3 y4 y5 y6 y7, LeO (chicanelaw14_NamesOwn.l2 k y0 y1 y2 y3 y4 y5 y6 y7) (chicanelaw14_NamesOwn.l2 (k + 1) y0 y1 y2 y3 y4 y5 y6 y7))
 | 0 => ⟨fun _ _ _ _ _ _ _ _ _ _ _ _ _ r h => by simp [chicanelaw14_NamesOwn.j0] at h, fun _ _ _ _ _ _ _ _ _ _ _ _ _ _ _ _ r h => by simp [chicanelaw14_NamesOwn.l0] at h, fun _ _ _ _ _ r h => by simp [chicanelaw14_NamesOwn.l1] at h, fun _ _ _ _ _ _ _ _ r h => by simp [chicanelaw14_NamesOwn.l2] at h⟩
 | k + 1 => by
  obtain ⟨ih0, ih1, ih2, ih3⟩ := chicanelaw14_NamesOwn.mono_l k
  refine ⟨?_, ?_, ?_, ?_⟩
  ·intro y0 y1 y2 y3 y4 y5 y6 y7 y8 y9 y10 y11 y12
   unfold chicanelaw14_NamesOwn.j0
   repeat' first
   | (with_reducible exact ih0 _ _ _ _ _ _ _ _ _ _ _ _ _)
   | (with_reducible exact ih1 _ _ _ _ _ _ _ _ _ _ _ _ _ _ _ _)
   | (with_reducible exact ih2 _ _ _ _ _)
   | (with_reducible exact ih3 _ _ _ _ _ _ _ _)
   | (with_reducible exact chicanelaw14_alive.mono _)
   | (with_reducible exact chicanelaw14_does.mono _ _ _ _ _ _ _ _ _ _ _ _ _)
   | (with_reducible exact chicanelaw14_few.mono _ _)
   | (with_reducible exact chicaneref14_Right.mono _ _)
   | (with_reducible exact chicaneref14_Same.mono _ _ _)
   | (with_reducible exact LeO.refl _)
   | (with_reducible exact LeO.none _)
   | (with_reducible refine LeO.ite ?_ ?_)
   | (with_reducible refine LeO.bind ?_ (fun _ => ?_))
   | exact ih0 _ _ _ _ _ _ _ _ _ _ _ _ _
   | exact ih1 _ _ _ _ _ _ _ _ _ _ _ _ _ _ _ _
   | exact ih2 _ _ _ _ _
   | exact ih3 _ _ _ _ _ _ _ _
   | exact chicanelaw14_alive.mono _
   | exact chicanelaw14_does.mono _ _ _ _ _ _ _ _ _ _ _ _ _
   | exact chicanelaw14_few.mono _ _
   | exact chicaneref14_Right.mono _ _
   | exact chicaneref14_Same.mono _ _ _
   | exact LeO.none _
   | refine LeO.ite ?_ ?_
   | refine LeO.bind ?_ (fun _ => ?_)
  ·intro y0 y1 y2 y3 y4 y5 y6 y7 y8 y9 y10 y11 y12 y13 y14 y15
   unfold chicanelaw14_NamesOwn.l0
   repeat' first
   | (with_reducible exact ih0 _ _ _ _ _ _ _ _ _ _ _ _ _)
   | (with_reducible exact ih1 _ _ _ _ _ _ _ _ _ _ _ _ _ _ _ _)
   | (with_reducible exact ih2 _ _ _ _ _)
   | (with_reducible exact ih3 _ _ _ _ _ _ _ _)
   | (with_reducible exact chicanelaw14_alive.mono _)
   | (with_reducible exact chicanelaw14_does.mono _ _ _ _ _ _ _ _ _ _ _ _ _)
   | (with_reducible exact chicanelaw14_few.mono _ _)
   | (with_reducible exact chicaneref14_Right.mono _ _)
   | (with_reducible exact chicaneref14_Same.mono _ _ _)
   | (with_reducible exact LeO.refl _)
   | (with_reducible exact LeO.none _)
   | (with_reducible refine LeO.ite ?_ ?_)
   | (with_reducible refine LeO.bind ?_ (fun _ => ?_))
   | exact ih0 _ _ _ _ _ _ _ _ _ _ _ _ _
   | exact ih1 _ _ _ _ _ _ _ _ _ _ _ _ _ _ _ _
   | exact ih2 _ _ _ _ _
   | exact ih3 _ _ _ _ _ _ _ _
   | exact chicanelaw14_alive.mono _
   | exact chicanelaw14_does.mono _ _ _ _ _ _ _ _ _ _ _ _ _
   | exact chicanelaw14_few.mono _ _
   | exact chicaneref14_Right.mono _ _
   | exact chicaneref14_Same.mono _ _ _
   | exact LeO.none _
   | refine LeO.ite ?_ ?_
   | refine LeO.bind ?_ (fun _ => ?_)
  ·intro y0 y1 y2 y3 y4
   unfold chicanelaw14_NamesOwn.l1
   repeat' first
   | (with_reducible exact ih0 _ _ _ _ _ _ _ _ _ _ _ _ _)
   | (with_reducible exact ih1 _ _ _ _ _ _ _ _ _ _ _ _ _ _ _ _)
   | (with_reducible exact ih2 _ _ _ _ _)
   | (with_reducible exact ih3 _ _ _ _ _ _ _ _)
   | (with_reducible exact chicanelaw14_alive.mono _)
   | (with_reducible exact chicanelaw14_does.mono _ _ _ _ _ _ _ _ _ _ _ _ _)
   | (with_reducible exact chicanelaw14_few.mono _ _)
   | (with_reducible exact chicaneref14_Right.mono _ _)
   | (with_reducible exact chicaneref14_Same.mono _ _ _)
   | (with_reducible exact LeO.refl _)
   | (with_reducible exact LeO.none _)
   | (with_reducible refine LeO.ite ?_ ?_)
   | (with_reducible refine LeO.bind ?_ (fun _ => ?_))
   | exact ih0 _ _ _ _ _ _ _ _ _ _ _ _ _
   | exact ih1 _ _ _ _ _ _ _ _ _ _ _ _ _ _ _ _
   | exact ih2 _ _ _ _ _
   | exact ih3 _ _ _ _ _ _ _ _
   | exact chicanelaw14_alive.mono _
   | exact chicanelaw14_does.mono _ _ _ _ _ _ _ _ _ _ _ _ _
   | exact chicanelaw14_few.mono _ _
   | exact chicaneref14_Right.mono _ _
   | exact chicaneref14_Same.mono _ _ _
   | exact LeO.none _
   | refine LeO.ite ?_ ?_
   | refine LeO.bind ?_ (fun _ => ?_)
  ·intro y0 y1 y2 y3 y4 y5 y6 y7
   unfold chicanelaw14_NamesOwn.l2
   repeat' first
   | (with_reducible exact ih0 _ _ _ _ _ _ _ _ _ _ _ _ _)
   | (with_reducible exact ih1 _ _ _ _ _ _ _ _ _ _ _ _ _ _ _ _)
   | (with_reducible exact ih2 _ _ _ _ _)
   | (with_reducible exact ih3 _ _ _ _ _ _ _ _)
   | (with_reducible exact chicanelaw14_alive.mono _)
   | (with_reducible exact chicanelaw14_does.mono _ _ _ _ _ _ _ _ _ _ _ _ _)
   | (with_reducible exact chicanelaw14_few.mono _ _)
   | (with_reducible exact chicaneref14_Right.mono _ _)
   | (with_reducible exact chicaneref14_Same.mono _ _ _)
   | (with_reducible exact LeO.refl _)
   | (with_reducible exact LeO.none _)
   | (with_reducible refine LeO.ite ?_ ?_)
   | (with_reducible refine LeO.bind ?_ (fun _ => ?_))
   | exact ih0 _ _ _ _ _ _ _ _ _ _ _ _ _
   | exact ih1 _ _ _ _ _ _ _ _ _ _ _ _ _ _ _ _
   | exact ih2 _ _ _ _ _
   | exact ih3 _ _ _ _ _ _ _ _
   | exact chicanelaw14_alive.mono _
   | exact chicanelaw14_does.mono _ _ _ _ _ _ _ _ _ _ _ _ _
   | exact chicanelaw14_few.mono _ _
   | exact chicaneref14_Right.mono _ _
   | exact chicaneref14_Same.mono _ _ _
   | exact LeO.none _
   | refine LeO.ite ?_ ?_
   | refine LeO.bind ?_ (fun _ => ?_)
theorem chicanelaw14_NamesOwn.mono : ∀ a0 a1 a2 a3 a4 a5 a6 a7 a8 a9 a10 a11 k, LeO (chicanelaw14_NamesOwn.f k a0 a1 a2 a3 a4 a5 a6 a7 a8 a9 a10 a11) (chicanelaw14_NamesOwn.f (k + 1) a0 a1 a2 a3 a4 a5 a6 a7 a8 a9 a10 a11) := by
 intro a0 a1 a2 a3 a4 a5 a6 a7 a8 a9 a10 a11 k
 obtain ⟨ih0, ih1, ih2, ih3⟩ := chicanelaw14_NamesOwn.mono_l k
 unfold chicanelaw14_NamesOwn.f
 repeat' first
   | (with_reducible exact ih0 _ _ _ _ _ _ _ _ _ _ _ _ _)
   | (with_reducible exact ih1 _ _ _ _ _ _ _ _ _ _ _ _ _ _ _ _)
   | (with_reducible exact ih2 _ _ _ _ _)
   | (with_reducible exact ih3 _ _ _ _ _ _ _ _)
   | (with_reducible exact chicanelaw14_alive.mono _)
   | (with_reducible exact chicanelaw14_does.mono _ _ _ _ _ _ _ _ _ _ _ _ _)
   | (with_reducible exact chicanelaw14_few.mono _ _)
   | (with_reducible exact chicaneref14_Right.mono _ _)
   | (with_reducible exact chicaneref14_Same.mono _ _ _)
   | (with_reducible exact LeO.refl _)
   | (with_reducible exact LeO.none _)
   | (with_reducible refine LeO.ite ?_ ?_)
   | (with_reducible refine LeO.bind ?_ (fun _ => ?_))
   | exact ih0 _ _ _ _ _ _ _ _ _ _ _ _ _
   | exact ih1 _ _ _ _ _ _ _ _ _ _ _ _ _ _ _ _
   | exact ih2 _ _ _ _ _
   | exact ih3 _ _ _ _ _ _ _ _
   | exact chicanelaw14_alive.mono _
   | exact chicanelaw14_does.mono _ _ _ _ _ _ _ _ _ _ _ _ _
   | exact chicanelaw14_few.mono _ _
   | exact chicaneref14_Right.mono _ _
   | exact chicaneref14_Same.mono _ _ _
   | exact LeO.none _
   | refine LeO.ite ?_ ?_
   | refine LeO.bind ?_ (fun _ => ?_)
set_option maxHeartbeats 8000000 in
set_option maxRecDepth 100000 in
theorem chicanelaw14_NamesOwn.calls (k : Nat) (A0 : Option Addr) (c0 : Nat) (l0 : List (S24)) (a1_0 : Int) (a1_1 : Int) (a1_2 : ByteArray) (a1_3 : ByteArray) (a1_4 : Bool) (a1_5 : ByteArray) (a1_6 : Int) (a1_7 : Bool) (a1_8 : Int) (a1_9 : Int) (a1_10 : Int) (r : Bool) (w : World) (hr0 : Kd.C k24 w A0 l0.length l0) (hc0 : l0.length ≤ c0) (hr : r = true) (h : chicanelaw14_NamesOwn.f k l0 a1_0 a1_1 a1_2 a1_3 a1_4 a1_5 a1_6 a1_7 a1_8 a1_9 a1_10 = some r) :
  Calls Try.prog 6 #[.slice A0 l0.length c0, .agg #[.int .i64 a1_0, .int .i64 a1_1, .string a1_2, .string a1_3, .bool a1_4, .string a1_5, .int .i64 a1_6, .bool a1_7, .int .i64 a1_8, .int .i64 a1_9, .int .i64 a1_10]] w fun e w' => e = .returned (.bool r) ∧ Below w.heap.size w w' := by
 have hu48 := Try.underlying48
 have hu24 := Try.underlying24
 have HR0 := Aside0.mk hr0
 have HC0 := Aside0.mk hc0
 clear hr0 hc0
 have HB := Aside0.mk (Below.refl w.heap.size w)
 have H : ((chicanelaw14_few.f k l0).bind fun t330 => (if t330 = true then ((chicanelaw14_kind.f a1_0 a1_1 a1_2 a1_3 a1_4 a1_5 a1_6 a1_7 a1_8 a1_9 a1_10).bind fun t331 => (if t331 = true then ((chicaneref14_Right.f k l0).bind fun t332 => (chicanelaw14_NamesOwn.j0 k l0 (!t332) a1_0 a1_1 a1_2 a1_3 a1_4 a1_5 a1_6 a1_7 a1_8 a1_9 a1_10)) else (chicanelaw14_NamesOwn.j0 k l0 true a1_0 a1_1 a1_2 a1_3 a1_4 a1_5 a1_6 a1_7 a1_8 a1_9 a1_10))) else (chicanelaw14_NamesOwn.j0 k l0 true a1_0 a1_1 a1_2 a1_3 a1_4 a1_5 a1_6 a1_7 a1_8 a1_9 a1_10))) = some r := h
 clear h
 have HC3 := Aside0.mk H
 clear H
 go_enter Try.func6, Try.ntmps6
 go_upto_region 1 with (first | ((with_reducible refine gate_dst (N := 3) rfl ?_); refine box_event ?hg (N := 3) ?hd (cs := #[.int .i64 a1_0, .int .i64 a1_1, .string a1_2, .string a1_3, .bool a1_4, .string a1_5, .int .i64 a1_6, .bool a1_7, .int .i64 a1_8, .int .i64 a1_9, .int .i64 a1_10]) (t := 48) ?hr ?_; (case hd => rfl); (case hg => rfl); (case hr => first | (go_simp; done) | (go_simp; rfl)); intro gb329 hg w4 hbox hb; have n0_ := Aside0.mk (below_step (by repeat (first | (with_reducible first | exact HB.out | apply below_alloc | apply pw_below_drewN | apply below_drew1) | exact HB.out)) hb); have n1_ := Aside0.mk (hbox); have n2_ := Aside0.mk ((by rw [hg]; exact (below_size (by repeat (first | (with_reducible first | exact HB.out | apply below_alloc | apply pw_below_drewN | apply below_drew1) | exact HB.out))) : w.heap.size ≤ gb329)); have n3_ := Aside0.mk ((by rw [hg]; exact (below_size (by repeat (first | (with_reducible first | exact HB.out | apply below_alloc | apply pw_below_drewN | apply below_drew1) | exact HB.out))) : w.heap.size ≤ gb329)); clear HB; have HB := n0_; have BK329 := n1_; have GW329 := n2_; have GE329 := n3_; clear n0_ n1_ n2_ n3_; clear hb hbox hg))
 (try simp only [Act.put, List.setIfInBounds_toArray, List.set_cons_zero, List.set_cons_succ])
 go_cut [24] (fun v24 wc => ∃ (kq : Nat) (x24_2 : Bool), v24 = .bool x24_2 ∧ Aside0 (chicanelaw14_NamesOwn.j0 kq l0 x24_2 a1_0 a1_1 a1_2 a1_3 a1_4 a1_5 a1_6 a1_7 a1_8 a1_9 a1_10 = some r) ∧ Aside0 (kq ≤ k) ∧ Aside0 (wc.heap[gb329]? = some (.cells #[.int .i64 a1_0, .int .i64 a1_1, .string a1_2, .string a1_3, .bool a1_4, .string a1_5, .int .i64 a1_6, .bool a1_7, .int .i64 a1_8, .int .i64 a1_9, .int .i64 a1_10] 48 (0, 0))) ∧ Aside0 (Below w.heap.size w wc))
 case first =>
  have H := HC3.out
  clear HC3
  replace H := Option.bind_eq_some_iff.mp H
  obtain ⟨t330, A50, H⟩ := H
  replace H : (if t330 = true then ((chicanelaw14_kind.f a1_0 a1_1 a1_2 a1_3 a1_4 a1_5 a1_6 a1_7 a1_8 a1_9 a1_10).bind fun t331 => (if t331 = true then ((chicaneref14_Right.f k l0).bind fun t332 => (chicanelaw14_NamesOwn.j0 k l0 (!t332) a1_0 a1_1 a1_2 a1_3 a1_4 a1_5 a1_6 a1_7 a1_8 a1_9 a1_10)) else (chicanelaw14_NamesOwn.j0 k l0 true a1_0 a1_1 a1_2 a1_3 a1_4 a1_5 a1_6 a1_7 a1_8 a1_9 a1_10))) else (chicanelaw14_NamesOwn.j0 k l0 true a1_0 a1_1 a1_2 a1_3 a1_4 a1_5 a1_6 a1_7 a1_8 a1_9 a1_10)) = some r := H
  have A5 := Aside0.mk A50
  clear A50
  by_cases c6 : t330 = true
  ·subst c6
   have H1 : ((chicanelaw14_kind.f a1_0 a1_1 a1_2 a1_3 a1_4 a1_5 a1_6 a1_7 a1_8 a1_9 a1_10).bind fun t331 => (if t331 = true then ((chicaneref14_Right.f k l0).bind fun t332 => (chicanelaw14_NamesOwn.j0 k l0 (!t332) a1_0 a1_1 a1_2 a1_3 a1_4 a1_5 a1_6 a1_7 a1_8 a1_9 a1_10)) else (chicanelaw14_NamesOwn.j0 k l0 true a1_0 a1_1 a1_2 a1_3 a1_4 a1_5 a1_6 a1_7 a1_8 a1_9 a1_10))) = some r := by rw [if_pos rfl] at H; exact H
   clear H
   have H := H1
   clear H1
   replace H := Option.bind_eq_some_iff.mp H
   obtain ⟨t331, A70, H⟩ := H
   replace H : (if t331 = true then ((chicaneref14_Right.f k l0).bind fun t332 => (chicanelaw14_NamesOwn.j0 k l0 (!t332) a1_0 a1_1 a1_2 a1_3 a1_4 a1_5 a1_6 a1_7 a1_8 a1_9 a1_10)) else (chicanelaw14_NamesOwn.j0 k l0 true a1_0 a1_1 a1_2 a1_3 a1_4 a1_5 a1_6 a1_7 a1_8 a1_9 a1_10)) = some r := H
   have A7 := Aside0.mk A70
   clear A70
   by_cases c8 : t331 = true
   ·subst c8
    have H1 : ((chicaneref14_Right.f k l0).bind fun t332 => (chicanelaw14_NamesOwn.j0 k l0 (!t332) a1_0 a1_1 a1_2 a1_3 a1_4 a1_5 a1_6 a1_7 a1_8 a1_9 a1_10)) = some r := by rw [if_pos rfl] at H; exact H
    clear H
    have H := H1
    clear H1
    replace H := Option.bind_eq_some_iff.mp H
    obtain ⟨t332, A90, H⟩ := H
    replace H : (chicanelaw14_NamesOwn.j0 k l0 (!t332) a1_0 a1_1 a1_2 a1_3 a1_4 a1_5 a1_6 a1_7 a1_8 a1_9 a1_10) = some r := H
    have A9 := Aside0.mk A90
    clear A90
    have H' := Aside0.mk H
    clear H
    go_wp2_with (first | ((with_reducible refine gate_callee (f := 7) rfl ?_); refine goesL_ (some 13) rfl rfl Try.func7 (by kernel_rfl) rfl #[.slice A0 l0.length c0] rfl (by (try simp only [List.map_toArray, List.map_cons, List.map_nil]); first | done | rfl | (simp only [List.length_drop, List.length_take]; rfl)) ?_; (with_reducible refine (chicanelaw14_few.calls k _ _ l0 true _ ?side1 ?side2 A5.out).mono ?_); (case side1 => repeat (first | exact (Kd.C_below HR0.out HB.out) | (with_reducible refine Kd.C_alloc ?_ _) | (with_reducible refine Kd.C_drewN ?_ _) | (with_reducible refine Kd.C_drew ?_))); (case side2 => exact HC0.out); rintro e w10 ⟨rfl, hb⟩; refine ⟨_, rfl, ?_⟩; have n0_ := Aside0.mk (blk_below (g := gb329) (o := .cells #[.int .i64 a1_0, .int .i64 a1_1, .string a1_2, .string a1_3, .bool a1_4, .string a1_5, .int .i64 a1_6, .bool a1_7, .int .i64 a1_8, .int .i64 a1_9, .int .i64 a1_10] 48 (0, 0)) (by (with_reducible repeat (first | refine blk_drewN ?_ _ | refine blk_drew ?_ | refine blk_alloc ?_ _)); exact BK329.out) hb); have n1_ := Aside0.mk (below_step (by repeat (first | (with_reducible first | exact HB.out | apply below_alloc | apply pw_below_drewN | apply below_drew1 | refine below_set ?_ GE329.out) | exact HB.out)) hb); clear BK329; clear HB; have BK329 := n0_; have HB := n1_; clear n0_ n1_; (try clear hb); (try clear hb2); (try clear hk); (try clear hi); have hcz11_0 : w10.cell? ⟨gb329, 0, none⟩ = some (.int .i64 a1_0) := (blk_cell BK329.out 0).trans rfl; have hcz11_1 : w10.cell? ⟨gb329, 1, none⟩ = some (.int .i64 a1_1) := (blk_cell BK329.out 1).trans rfl; have hcz11_2 : w10.cell? ⟨gb329, 2, none⟩ = some (.string a1_2) := (blk_cell BK329.out 2).trans rfl; have hcz11_3 : w10.cell? ⟨gb329, 3, none⟩ = some (.string a1_3) := (blk_cell BK329.out 3).trans rfl; have hcz11_4 : w10.cell? ⟨gb329, 4, none⟩ = some (.bool a1_4) := (blk_cell BK329.out 4).trans rfl; have hcz11_5 : w10.cell? ⟨gb329, 5, none⟩ = some (.string a1_5) := (blk_cell BK329.out 5).trans rfl; have hcz11_6 : w10.cell? ⟨gb329, 6, none⟩ = some (.int .i64 a1_6) := (blk_cell BK329.out 6).trans rfl; have hcz11_7 : w10.cell? ⟨gb329, 7, none⟩ = some (.bool a1_7) := (blk_cell BK329.out 7).trans rfl; have hcz11_8 : w10.cell? ⟨gb329, 8, none⟩ = some (.int .i64 a1_8) := (blk_cell BK329.out 8).trans rfl; have hcz11_9 : w10.cell? ⟨gb329, 9, none⟩ = some (.int .i64 a1_9) := (blk_cell BK329.out 9).trans rfl; have hcz11_10 : w10.cell? ⟨gb329, 10, none⟩ = some (.int .i64 a1_10) := (blk_cell BK329.out 10).trans rfl; have hfz11_0 := blk_frozen BK329.out 0; have hfz11_1 := blk_frozen BK329.out 1; have hfz11_2 := blk_frozen BK329.out 2; have hfz11_3 := blk_frozen BK329.out 3; have hfz11_4 := blk_frozen BK329.out 4; have hfz11_5 := blk_frozen BK329.out 5; have hfz11_6 := blk_frozen BK329.out 6; have hfz11_7 := blk_frozen BK329.out 7; have hfz11_8 := blk_frozen BK329.out 8; have hfz11_9 := blk_frozen BK329.out 9; have hfz11_10 := blk_frozen BK329.out 10) | (go_at_call 23; (with_reducible refine (chicanelaw14_kind.calls a1_0 a1_1 a1_2 a1_3 a1_4 a1_5 a1_6 a1_7 a1_8 a1_9 a1_10 true _ A7.out).mono ?_); rintro e w12 ⟨rfl, hb⟩; have n0_ := Aside0.mk (blk_below (g := gb329) (o := .cells #[.int .i64 a1_0, .int .i64 a1_1, .string a1_2, .string a1_3, .bool a1_4, .string a1_5, .int .i64 a1_6, .bool a1_7, .int .i64 a1_8, .int .i64 a1_9, .int .i64 a1_10] 48 (0, 0)) (by (with_reducible repeat (first | refine blk_drewN ?_ _ | refine blk_drew ?_ | refine blk_alloc ?_ _)); exact BK329.out) hb); have n1_ := Aside0.mk (below_step (by repeat (first | (with_reducible first | exact HB.out | apply below_alloc | apply pw_below_drewN | apply below_drew1 | refine below_set ?_ GE329.out) | exact HB.out)) hb); clear BK329; clear HB; have BK329 := n0_; have HB := n1_; clear n0_ n1_; (try clear hb); (try clear hb2); (try clear hk); (try clear hi)) | (go_at_call 17; (with_reducible refine (chicaneref14_Right.calls k _ _ l0 t332 _ ?side1 ?side2 A9.out).mono ?_); (case side1 => repeat (first | exact (Kd.C_below HR0.out HB.out) | (with_reducible refine Kd.C_alloc ?_ _) | (with_reducible refine Kd.C_drewN ?_ _) | (with_reducible refine Kd.C_drew ?_))); (case side2 => exact HC0.out); rintro e w13 ⟨rfl, hb⟩; have n0_ := Aside0.mk (blk_below (g := gb329) (o := .cells #[.int .i64 a1_0, .int .i64 a1_1, .string a1_2, .string a1_3, .bool a1_4, .string a1_5, .int .i64 a1_6, .bool a1_7, .int .i64 a1_8, .int .i64 a1_9, .int .i64 a1_10] 48 (0, 0)) (by (with_reducible repeat (first | refine blk_drewN ?_ _ | refine blk_drew ?_ | refine blk_alloc ?_ _)); exact BK329.out) hb); have n1_ := Aside0.mk (below_step (by repeat (first | (with_reducible first | exact HB.out | apply below_alloc | apply pw_below_drewN | apply below_drew1 | refine below_set ?_ GE329.out) | exact HB.out)) hb); clear BK329; clear HB; have BK329 := n0_; have HB := n1_; clear n0_ n1_; (try clear hb); (try clear hb2); (try clear hk); (try clear hi)))
    go_meet
    case rel => exact ⟨_, (!t332), (by first | rfl | (simp; done) | (simp [*]; done)), H', ⟨by first | omega | exact Nat.le_refl _⟩, ⟨by (with_reducible repeat (first | refine blk_drewN ?_ _ | refine blk_drew ?_ | refine blk_alloc ?_ _)); exact BK329.out⟩, ⟨by repeat (first | (with_reducible first | exact HB.out | apply below_alloc | apply pw_below_drewN | apply below_drew1 | refine below_set ?_ GE329.out) | exact HB.out)⟩⟩
   ·replace c8 := Bool.eq_false_iff.mpr c8
    subst c8
    have H1 : (chicanelaw14_NamesOwn.j0 k l0 true a1_0 a1_1 a1_2 a1_3 a1_4 a1_5 a1_6 a1_7 a1_8 a1_9 a1_10) = some r := by rw [if_neg (show ¬ (false = true) by decide)] at H; exact H
    clear H
    have H := H1
    clear H1
    have H' := Aside0.mk H
    clear H
    go_wp2_with (first | ((with_reducible refine gate_callee (f := 7) rfl ?_); refine goesL_ (some 13) rfl rfl Try.func7 (by kernel_rfl) rfl #[.slice A0 l0.length c0] rfl (by (try simp only [List.map_toArray, List.map_cons, List.map_nil]); first | done | rfl | (simp only [List.length_drop, List.length_take]; rfl)) ?_; (with_reducible refine (chicanelaw14_few.calls k _ _ l0 true _ ?side1 ?side2 A5.out).mono ?_); (case side1 => repeat (first | exact (Kd.C_below HR0.out HB.out) | (with_reducible refine Kd.C_alloc ?_ _) | (with_reducible refine Kd.C_drewN ?_ _) | (with_reducible refine Kd.C_drew ?_))); (case side2 => exact HC0.out); rintro e w14 ⟨rfl, hb⟩; refine ⟨_, rfl, ?_⟩; have n0_ := Aside0.mk (blk_below (g := gb329) (o := .cells #[.int .i64 a1_0, .int .i64 a1_1, .string a1_2, .string a1_3, .bool a1_4, .string a1_5, .int .i64 a1_6, .bool a1_7, .int .i64 a1_8, .int .i64 a1_9, .int .i64 a1_10] 48 (0, 0)) (by (with_reducible repeat (first | refine blk_drewN ?_ _ | refine blk_drew ?_ | refine blk_alloc ?_ _)); exact BK329.out) hb); have n1_ := Aside0.mk (below_step (by repeat (first | (with_reducible first | exact HB.out | apply below_alloc | apply pw_below_drewN | apply below_drew1 | refine below_set ?_ GE329.out) | exact HB.out)) hb); clear BK329; clear HB; have BK329 := n0_; have HB := n1_; clear n0_ n1_; (try clear hb); (try clear hb2); (try clear hk); (try clear hi); have hcz15_0 : w14.cell? ⟨gb329, 0, none⟩ = some (.int .i64 a1_0) := (blk_cell BK329.out 0).trans rfl; have hcz15_1 : w14.cell? ⟨gb329, 1, none⟩ = some (.int .i64 a1_1) := (blk_cell BK329.out 1).trans rfl; have hcz15_2 : w14.cell? ⟨gb329, 2, none⟩ = some (.string a1_2) := (blk_cell BK329.out 2).trans rfl; have hcz15_3 : w14.cell? ⟨gb329, 3, none⟩ = some (.string a1_3) := (blk_cell BK329.out 3).trans rfl; have hcz15_4 : w14.cell? ⟨gb329, 4, none⟩ = some (.bool a1_4) := (blk_cell BK329.out 4).trans rfl; have hcz15_5 : w14.cell? ⟨gb329, 5, none⟩ = some (.string a1_5) := (blk_cell BK329.out 5).trans rfl; have hcz15_6 : w14.cell? ⟨gb329, 6, none⟩ = some (.int .i64 a1_6) := (blk_cell BK329.out 6).trans rfl; have hcz15_7 : w14.cell? ⟨gb329, 7, none⟩ = some (.bool a1_7) := (blk_cell BK329.out 7).trans rfl; have hcz15_8 : w14.cell? ⟨gb329, 8, none⟩ = some (.int .i64 a1_8) := (blk_cell BK329.out 8).trans rfl; have hcz15_9 : w14.cell? ⟨gb329, 9, none⟩ = some (.int .i64 a1_9) := (blk_cell BK329.out 9).trans rfl; have hcz15_10 : w14.cell? ⟨gb329, 10, none⟩ = some (.int .i64 a1_10) := (blk_cell BK329.out 10).trans rfl; have hfz15_0 := blk_frozen BK329.out 0; have hfz15_1 := blk_frozen BK329.out 1; have hfz15_2 := blk_frozen BK329.out 2; have hfz15_3 := blk_frozen BK329.out 3; have hfz15_4 := blk_frozen BK329.out 4; have hfz15_5 := blk_frozen BK329.out 5; have hfz15_6 := blk_frozen BK329.out 6; have hfz15_7 := blk_frozen BK329.out 7; have hfz15_8 := blk_frozen BK329.out 8; have hfz15_9 := blk_frozen BK329.out 9; have hfz15_10 := blk_frozen BK329.out 10) | (go_at_call 23; (with_reducible refine (chicanelaw14_kind.calls a1_0 a1_1 a1_2 a1_3 a1_4 a1_5 a1_6 a1_7 a1_8 a1_9 a1_10 false _ A7.out).mono ?_); rintro e w16 ⟨rfl, hb⟩; have n0_ := Aside0.mk (blk_below (g := gb329) (o := .cells #[.int .i64 a1_0, .int .i64 a1_1, .string a1_2, .string a1_3, .bool a1_4, .string a1_5, .int .i64 a1_6, .bool a1_7, .int .i64 a1_8, .int .i64 a1_9, .int .i64 a1_10] 48 (0, 0)) (by (with_reducible repeat (first | refine blk_drewN ?_ _ | refine blk_drew ?_ | refine blk_alloc ?_ _)); exact BK329.out) hb); have n1_ := Aside0.mk (below_step (by repeat (first | (with_reducible first | exact HB.out | apply below_alloc | apply pw_below_drewN | apply below_drew1 | refine below_set ?_ GE329.out) | exact HB.out)) hb); clear BK329; clear HB; have BK329 := n0_; have HB := n1_; clear n0_ n1_; (try clear hb); (try clear hb2); (try clear hk); (try clear hi)))
    go_meet
    case rel => exact ⟨_, (true), (by first | rfl | (simp; done) | (simp [*]; done)), H', ⟨by first | omega | exact Nat.le_refl _⟩, ⟨by (with_reducible repeat (first | refine blk_drewN ?_ _ | refine blk_drew ?_ | refine blk_alloc ?_ _)); exact BK329.out⟩, ⟨by repeat (first | (with_reducible first | exact HB.out | apply below_alloc | apply pw_below_drewN | apply below_drew1 | refine below_set ?_ GE329.out) | exact HB.out)⟩⟩
  ·replace c6 := Bool.eq_false_iff.mpr c6
   subst c6
   have H1 : (chicanelaw14_NamesOwn.j0 k l0 true a1_0 a1_1 a1_2 a1_3 a1_4 a1_5 a1_6 a1_7 a1_8 a1_9 a1_10) = some r := by rw [if_neg (show ¬ (false = true) by decide)] at H; exact H
   clear H
   have H := H1
   clear H1
   have H' := Aside0.mk H
   clear H
   go_wp2_with (first | ((with_reducible refine gate_callee (f := 7) rfl ?_); refine goesL_ (some 13) rfl rfl Try.func7 (by kernel_rfl) rfl #[.slice A0 l0.length c0] rfl (by (try simp only [List.map_toArray, List.map_cons, List.map_nil]); first | done | rfl | (simp only [List.length_drop, List.length_take]; rfl)) ?_; (with_reducible refine (chicanelaw14_few.calls k _ _ l0 false _ ?side1 ?side2 A5.out).mono ?_); (case side1 => repeat (first | exact (Kd.C_below HR0.out HB.out) | (with_reducible refine Kd.C_alloc ?_ _) | (with_reducible refine Kd.C_drewN ?_ _) | (with_reducible refine Kd.C_drew ?_))); (case side2 => exact HC0.out); rintro e w17 ⟨rfl, hb⟩; refine ⟨_, rfl, ?_⟩; have n0_ := Aside0.mk (blk_below (g := gb329) (o := .cells #[.int .i64 a1_0, .int .i64 a1_1, .string a1_2, .string a1_3, .bool a1_4, .string a1_5, .int .i64 a1_6, .bool a1_7, .int .i64 a1_8, .int .i64 a1_9, .int .i64 a1_10] 48 (0, 0)) (by (with_reducible repeat (first | refine blk_drewN ?_ _ | refine blk_drew ?_ | refine blk_alloc ?_ _)); exact BK329.out) hb); have n1_ := Aside0.mk (below_step (by repeat (first | (with_reducible first | exact HB.out | apply below_alloc | apply pw_below_drewN | apply below_drew1 | refine below_set ?_ GE329.out) | exact HB.out)) hb); clear BK329; clear HB; have BK329 := n0_; have HB := n1_; clear n0_ n1_; (try clear hb); (try clear hb2); (try clear hk); (try clear hi)))
   go_meet
   case rel => exact ⟨_, (true), (by first | rfl | (simp; done) | (simp [*]; done)), H', ⟨by first | omega | exact Nat.le_refl _⟩, ⟨by (with_reducible repeat (first | refine blk_drewN ?_ _ | refine blk_drew ?_ | refine blk_alloc ?_ _)); exact BK329.out⟩, ⟨by repeat (first | (with_reducible first | exact HB.out | apply below_alloc | apply pw_below_drewN | apply below_drew1 | refine below_set ?_ GE329.out) | exact HB.out)⟩⟩
 case rest =>
  clear HC3
  try clear p2
  try clear c6
  try clear c7
  try clear c8
  try clear hcz11_0
  try clear hcz11_1
  try clear hcz11_10
  try clear hcz11_2
  try clear hcz11_3
  try clear hcz11_4
  try clear hcz11_5
  try clear hcz11_6
  try clear hcz11_7
  try clear hcz11_8
  try clear hcz11_9
  try clear hcz15_0
  try clear hcz15_1
  try clear hcz15_10
  try clear hcz15_2
  try clear hcz15_3
  try clear hcz15_4
  try clear hcz15_5
  try clear hcz15_6
  try clear hcz15_7
  try clear hcz15_8
  try clear hcz15_9
  try clear hfz11_0
  try clear hfz11_1
  try clear hfz11_10
  try clear hfz11_2
  try clear hfz11_3
  try clear hfz11_4
  try clear hfz11_5
  try clear hfz11_6
  try clear hfz11_7
  try clear hfz11_8
  try clear hfz11_9
  try clear hfz15_0
  try clear hfz15_1
  try clear hfz15_10
  try clear hfz15_2
  try clear hfz15_3
  try clear hfz15_4
  try clear hfz15_5
  try clear hfz15_6
  try clear hfz15_7
  try clear hfz15_8
  try clear hfz15_9
  obtain ⟨kq, x24_2, rfl, HA, HJ2, BK329, HB⟩ := hcut
  cases kq with
  | zero => exact absurd HA.out (by simp [chicanelaw14_NamesOwn.j0])
  | succ kj2 =>
   have H := HA.out
   clear HA
   simp only [chicanelaw14_NamesOwn.j0] at H
   by_cases c18 : x24_2 = true
   ·subst c18
    have H1 : ((chicanelaw14_alive.f kj2).bind fun t333 => (some t333)) = some r := by rw [if_pos rfl] at H; exact H
    clear H
    have H := H1
    clear H1
    replace H := Option.bind_eq_some_iff.mp H
    obtain ⟨t333, A190, H⟩ := H
    replace H : (some t333) = some r := H
    have A19 := Aside0.mk A190
    clear A190
    obtain rfl := Option.some.inj H
    go_wp2_with (first | ((with_reducible refine gate_callee (f := 8) rfl ?_); refine goesL_ (some 25) rfl rfl Try.func8 (by kernel_rfl) rfl #[] rfl (by (try simp only [List.map_toArray, List.map_cons, List.map_nil]); first | done | rfl | (simp only [List.length_drop, List.length_take]; rfl)) ?_; (with_reducible refine (chicanelaw14_alive.calls kj2  t333 _ A19.out).mono ?_); rintro e w20 ⟨rfl, hb⟩; refine ⟨_, rfl, ?_⟩; have n0_ := Aside0.mk (blk_below (g := gb329) (o := .cells #[.int .i64 a1_0, .int .i64 a1_1, .string a1_2, .string a1_3, .bool a1_4, .string a1_5, .int .i64 a1_6, .bool a1_7, .int .i64 a1_8, .int .i64 a1_9, .int .i64 a1_10] 48 (0, 0)) (by (with_reducible repeat (first | refine blk_drewN ?_ _ | refine blk_drew ?_ | refine blk_alloc ?_ _)); exact BK329.out) hb); have n1_ := Aside0.mk (below_step (by repeat (first | (with_reducible first | exact HB.out | apply below_alloc | apply pw_below_drewN | apply below_drew1 | refine below_set ?_ GE329.out) | exact HB.out)) hb); clear BK329; clear HB; have BK329 := n0_; have HB := n1_; clear n0_ n1_; (try clear hb); (try clear hb2); (try clear hk); (try clear hi)))
    go_ret
    exact ⟨by first | rfl | (simp [errW_none, errW_some] <;> rfl) | (simp [*, errW_none, errW_some] <;> rfl), by repeat (first | (with_reducible first | exact HB.out | apply below_alloc | apply pw_below_drewN | apply below_drew1 | refine below_set ?_ GE329.out) | exact HB.out)⟩
   ·replace c18 := Bool.eq_false_iff.mpr c18
    subst c18
    have H1 : (chicanelaw14_NamesOwn.l0 kj2 l0 ([] : List (S24)) l0 (l0.length : Int) 0 a1_0 a1_1 a1_2 a1_3 a1_4 a1_5 a1_6 a1_7 a1_8 a1_9 a1_10) = some r := by rw [if_neg (show ¬ (false = true) by decide)] at H; exact H
    clear H
    have H := H1
    clear H1
    have H' := Aside0.mk H
    clear H
    go_wp2
    go_loopg [5, 28] kj2 (fun kq v5 v28 w' => ∃ (x5_2 : List (S24)) (x28_2 : Int), v28 = .int .i64 x28_2 ∧ Aside0 (chicanelaw14_NamesOwn.l0 kq l0 x5_2 l0 (l0.length : Int) x28_2 a1_0 a1_1 a1_2 a1_3 a1_4 a1_5 a1_6 a1_7 a1_8 a1_9 a1_10 = some r) ∧ Aside0 (kq ≤ kj2) ∧ Aside0 (Kd.S k24 24 w' w.heap.size (fun _ => True) v5 x5_2) ∧ Aside0 (w'.heap[gb329]? = some (.cells #[.int .i64 a1_0, .int .i64 a1_1, .string a1_2, .string a1_3, .bool a1_4, .string a1_5, .int .i64 a1_6, .bool a1_7, .int .i64 a1_8, .int .i64 a1_9, .int .i64 a1_10] 48 (0, 0))) ∧ Aside0 (Below w.heap.size w w'))
    case atStart => exact ⟨(([] : List (S24))), (0), (by first | rfl | (simp; done) | (simp [*]; done)), H', ⟨Nat.le_refl _⟩, ⟨by first | exact Kd.S_nil _ _ _ _ _ | exact Kd.N_nil _ _ _ _ _ | exact Kd.V_nil _ _ _ _ _ | exact Kd.Q_nil _ _ _ _ _ | exact Kd.R_nil _ _ _ _ _⟩, ⟨by (with_reducible repeat (first | refine blk_drewN ?_ _ | refine blk_drew ?_ | refine blk_alloc ?_ _)); exact BK329.out⟩, ⟨by repeat (first | (with_reducible first | exact HB.out | apply below_alloc | apply pw_below_drewN | apply below_drew1 | refine below_set ?_ GE329.out) | exact HB.out)⟩⟩
    case round =>
     clear H'
     try clear c1
     try clear p2
     try clear c6
     try clear c7
     try clear c8
     try clear c18
     try clear hcz11_0
     try clear hcz11_1
     try clear hcz11_10
     try clear hcz11_2
     try clear hcz11_3
     try clear hcz11_4
     try clear hcz11_5
     try clear hcz11_6
     try clear hcz11_7
     try clear hcz11_8
     try clear hcz11_9
     try clear hcz15_0
     try clear hcz15_1
     try clear hcz15_10
     try clear hcz15_2
     try clear hcz15_3
     try clear hcz15_4
     try clear hcz15_5
     try clear hcz15_6
     try clear hcz15_7
     try clear hcz15_8
     try clear hcz15_9
     try clear hfz11_0
     try clear hfz11_1
     try clear hfz11_10
     try clear hfz11_2
     try clear hfz11_3
     try clear hfz11_4
     try clear hfz11_5
     try clear hfz11_6
     try clear hfz11_7
     try clear hfz11_8
     try clear hfz11_9
     try clear hfz15_0
     try clear hfz15_1
     try clear hfz15_10
     try clear hfz15_2
     try clear hfz15_3
     try clear hfz15_4
     try clear hfz15_5
     try clear hfz15_6
     try clear hfz15_7
     try clear hfz15_8
     try clear hfz15_9
     try clear p2
     obtain ⟨x5_2, x28_2, rfl, HA, HK2, HO_5, BK329, HB⟩ := hrel
     cases gk with
     | zero => exact absurd HA.out (by simp [chicanelaw14_NamesOwn.l0])
     | succ k2 =>
      have H := HA.out
      clear HA
      simp only [chicanelaw14_NamesOwn.l0] at H
      by_cases c21 : x28_2 < (l0.length : Int)
      ·rw [if_pos c21] at H
       have c21b0 : decide (x28_2 < (l0.length : Int)) = true := decide_eq_true c21
       clear c21
       by_cases c22 : 0 ≤ x28_2
       ·rw [if_pos c22] at H
        have c22b0 : decide (0 ≤ x28_2) = true := decide_eq_true c22
        clear c22
        by_cases c23 : x28_2 < (l0.length : Int)
        ·rw [if_pos c23] at H
         have c23b0 : decide (x28_2 < (l0.length : Int)) = true := decide_eq_true c23
         clear c23
         obtain ⟨y336, hy336⟩ : ∃ y_ : List (S39), y_ = (([] : List (S39))) := ⟨_, rfl⟩
         replace H : (if y336.length + ((rd_T24 l0 x28_2).f3).length < 2513169434916 then (if x5_2.length < 2513169434916 then (chicanelaw14_NamesOwn.l0 k2 l0 (x5_2 ++ [(⟨(rd_T24 l0 x28_2).f0, (rd_T24 l0 x28_2).f1, (rd_T24 l0 x28_2).f2, (y336 ++ ((rd_T24 l0 x28_2).f3))⟩ : S24)]) l0 (l0.length : Int) (wrap64 (x28_2 + 1)) a1_0 a1_1 a1_2 a1_3 a1_4 a1_5 a1_6 a1_7 a1_8 a1_9 a1_10) else (none)) else (none)) = some r := by first | (rw [hy336]; with_reducible exact H) | (have H2_ := (Option.bind_some _ _).symm.trans H; rw [hy336]; with_reducible exact H2_) | (have H2_ := (Option.bind_some _ _).symm.trans H; with_reducible exact H2_) | with_reducible exact H | (rw [hy336]; exact H) | exact H
         have Ny336 := Aside0.mk hy336
         clear hy336
         by_cases c24 : y336.length + ((rd_T24 l0 x28_2).f3).length < 2513169434916
         ·rw [if_pos c24] at H
          have LMc24 := Aside0.mk c24
          clear c24
          obtain ⟨y339, hy339⟩ : ∃ y_ : List (S39), y_ = (y336 ++ ((rd_T24 l0 x28_2).f3)) := ⟨_, rfl⟩
          replace H : (if x5_2.length < 2513169434916 then (chicanelaw14_NamesOwn.l0 k2 l0 (x5_2 ++ [(⟨(rd_T24 l0 x28_2).f0, (rd_T24 l0 x28_2).f1, (rd_T24 l0 x28_2).f2, y339⟩ : S24)]) l0 (l0.length : Int) (wrap64 (x28_2 + 1)) a1_0 a1_1 a1_2 a1_3 a1_4 a1_5 a1_6 a1_7 a1_8 a1_9 a1_10) else (none)) = some r := by first | (rw [hy339]; with_reducible exact H) | (have H2_ := (Option.bind_some _ _).symm.trans H; rw [hy339]; with_reducible exact H2_) | (have H2_ := (Option.bind_some _ _).symm.trans H; with_reducible exact H2_) | with_reducible exact H | (rw [hy339]; exact H) | exact H
          have Ny339 := Aside0.mk hy339
          clear hy339
          by_cases c25 : x5_2.length < 2513169434916
          ·rw [if_pos c25] at H
           have LMc25 := Aside0.mk c25
           clear c25
           obtain ⟨y342, hy342⟩ : ∃ y_ : List (S24), y_ = (x5_2 ++ [(⟨(rd_T24 l0 x28_2).f0, (rd_T24 l0 x28_2).f1, (rd_T24 l0 x28_2).f2, y339⟩ : S24)]) := ⟨_, rfl⟩
           replace H : (chicanelaw14_NamesOwn.l0 k2 l0 y342 l0 (l0.length : Int) (wrap64 (x28_2 + 1)) a1_0 a1_1 a1_2 a1_3 a1_4 a1_5 a1_6 a1_7 a1_8 a1_9 a1_10) = some r := by first | (rw [hy342]; with_reducible exact H) | (have H2_ := (Option.bind_some _ _).symm.trans H; rw [hy342]; with_reducible exact H2_) | (have H2_ := (Option.bind_some _ _).symm.trans H; with_reducible exact H2_) | with_reducible exact H | (rw [hy342]; exact H) | exact H
           have Ny342 := Aside0.mk hy342
           clear hy342
           have H' := Aside0.mk H
           clear H
           have p334 : 0 ≤ (x28_2 : Int) := of_decide_eq_true (by first | (with_reducible assumption) | assumption)
           have q334 : x28_2 < (l0.length : Int) := of_decide_eq_true (by first | (with_reducible assumption) | assumption)
           obtain ⟨ad334, A334_3, c334_3, e334, hx334_0, hx334_1, hx334_2, hx334_3, hl334_3, hi334_3⟩ := at_T24 HR0.out x28_2 p334 q334
           cases e334
           replace hx334_0 := (HB.out.cell (World.block_lt_of_cell? w _ hx334_0)).trans hx334_0
           replace hx334_1 := (HB.out.cell (World.block_lt_of_cell? w _ hx334_1)).trans hx334_1
           replace hx334_2 := (HB.out.cell (World.block_lt_of_cell? w _ hx334_2)).trans hx334_2
           replace hx334_3 := (HB.out.cell (World.block_lt_of_cell? w _ hx334_3)).trans hx334_3
           have HR334_3 := Aside0.mk hi334_3
           have HC334_3 := Aside0.mk hl334_3
           clear hi334_3 hl334_3
           replace p334 := eq_true p334
           replace q334 := eq_true q334
           go_wp2_with (first | ((with_reducible refine gate_dst (N := 7) rfl ?_); refine box_event ?hg (N := 7) ?hd (cs := #[.string (⟨#[]⟩ : ByteArray), .bool false, .int .i64 0, .slice none 0 0]) (t := 24) ?hr ?_; (case hd => rfl); (case hg => rfl); (case hr => first | (go_simp; done) | (go_simp; rfl)); intro gb335 hg w26 hbox hb; have n0_ := Aside0.mk (Kd.S_below (Kd.S_elderB (by (with_reducible repeat (first | apply Kd.S_alloc | apply Kd.S_drewN | apply Kd.S_drew)); exact HO_5.out) gb335 (Nat.le_of_eq hg.symm)) hb); have n1_ := Aside0.mk (blk_below (g := gb329) (o := .cells #[.int .i64 a1_0, .int .i64 a1_1, .string a1_2, .string a1_3, .bool a1_4, .string a1_5, .int .i64 a1_6, .bool a1_7, .int .i64 a1_8, .int .i64 a1_9, .int .i64 a1_10] 48 (0, 0)) (by (with_reducible repeat (first | refine blk_drewN ?_ _ | refine blk_drew ?_ | refine blk_alloc ?_ _)); exact BK329.out) hb); have n2_ := Aside0.mk (below_step (by repeat (first | (with_reducible first | exact HB.out | apply below_alloc | apply pw_below_drewN | apply below_drew1 | refine below_set ?_ GE329.out) | exact HB.out)) hb); have n3_ := Aside0.mk (hbox); have n4_ := Aside0.mk ((by rw [hg]; exact (below_size (by repeat (first | (with_reducible first | exact HB.out | apply below_alloc | apply pw_below_drewN | apply below_drew1 | refine below_set ?_ GE329.out) | exact HB.out))) : w.heap.size ≤ gb335)); have n5_ := Aside0.mk ((by rw [hg]; exact (below_size (by repeat (first | (with_reducible first | exact HB.out | apply below_alloc | apply pw_below_drewN | apply below_drew1 | refine below_set ?_ GE329.out) | exact HB.out))) : w.heap.size ≤ gb335)); have n6_ := Aside0.mk ((by rw [hg]; exact Nat.ne_of_lt (blk_lt (g := gb329) (o := .cells #[.int .i64 a1_0, .int .i64 a1_1, .string a1_2, .string a1_3, .bool a1_4, .string a1_5, .int .i64 a1_6, .bool a1_7, .int .i64 a1_8, .int .i64 a1_9, .int .i64 a1_10] 48 (0, 0)) (by (with_reducible repeat (first | refine blk_drewN ?_ _ | refine blk_drew ?_ | refine blk_alloc ?_ _)); exact BK329.out)) : gb329 ≠ gb335)); have n7_ := Aside0.mk ((by rw [hg]; exact Nat.ne_of_gt (blk_lt (g := gb329) (o := .cells #[.int .i64 a1_0, .int .i64 a1_1, .string a1_2, .string a1_3, .bool a1_4, .string a1_5, .int .i64 a1_6, .bool a1_7, .int .i64 a1_8, .int .i64 a1_9, .int .i64 a1_10] 48 (0, 0)) (by (with_reducible repeat (first | refine blk_drewN ?_ _ | refine blk_drew ?_ | refine blk_alloc ?_ _)); exact BK329.out)) : gb335 ≠ gb329)); clear HO_5; clear BK329; clear HB; have HO_5 := n0_; have BK329 := n1_; have HB := n2_; have BK335 := n3_; have GW335 := n4_; have GE335 := n5_; have NB329_335 := n6_; have NB335_329 := n7_; clear n0_ n1_ n2_ n3_ n4_ n5_ n6_ n7_; clear hb hbox hg; have hnb27 := NB335_329.out; have hnc27 := NB329_335.out; have hcz28_0 : w26.cell? ⟨gb335, 0, none⟩ = some (.string (⟨#[]⟩ : ByteArray)) := (blk_cell BK335.out 0).trans rfl; have hcz28_1 : w26.cell? ⟨gb335, 1, none⟩ = some (.bool false) := (blk_cell BK335.out 1).trans rfl; have hcz28_2 : w26.cell? ⟨gb335, 2, none⟩ = some (.int .i64 0) := (blk_cell BK335.out 2).trans rfl; have hcz28_3 : w26.cell? ⟨gb335, 3, none⟩ = some (.slice none 0 0) := (blk_cell BK335.out 3).trans rfl; have hfz28_0 := blk_frozen BK335.out 0; have hfz28_1 := blk_frozen BK335.out 1; have hfz28_2 := blk_frozen BK335.out 2; have hfz28_3 := blk_frozen BK335.out 3) | ((with_reducible refine gate_dst (N := 32) rfl ?_); refine Kd.R_lit k39 _ 39 ?hg (N := 32) ?hd (xs := ([] : List (S39))) (inner := []) (ok := fun _ => True) (okp := fun _ => True) ?hr ?hp (fun _ hk => hk) trivial (Below.refl _ _) (Nat.le_refl _) (by simp) ?_; (case hd => rfl); (case hg => rfl); (case hr => first | (go_simp; done) | (go_simp; rfl)); (case hp => exact (Reps.none _ _)); intro v337 w29 ho30 hb hg_ hnew_; clear hg_ hnew_; (first | rw [← Ny336.out] at ho30 | (simp only [Int.reduceToNat] at ho30; rw [← Ny336.out] at ho30)); have n0_ := Aside0.mk (Kd.S_elder' (by (with_reducible repeat (first | apply Kd.S_alloc | apply Kd.S_drewN | apply Kd.S_drew)); exact (Kd.S_mono (Kd.S_far (p := ⟨gb335, 3, none⟩) (Kd.S_far (p := ⟨gb335, 2, none⟩) (Kd.S_far (p := ⟨gb335, 1, none⟩) (Kd.S_far (p := ⟨gb335, 0, none⟩) (Kd.S_mono HO_5.out (fun k_ hk => (⟨hk, hk.2⟩ : _ ∧ k_ ≠ gb335))) (fun _ hk => hk.2) (.string ((rd_T24 l0 x28_2).f0))) (fun _ hk => hk.2) (.bool ((rd_T24 l0 x28_2).f1))) (fun _ hk => hk.2) (.int .i64 ((rd_T24 l0 x28_2).f2))) (fun _ hk => hk.2) (.slice A334_3 ((rd_T24 l0 x28_2).f3).length c334_3)) (fun _ h_ => h_.1))) (Kd.R_base ho30) hb); have n1_ := Aside0.mk (Kd.R_lower ho30 (below_size (by repeat (first | (with_reducible first | exact HB.out | apply below_alloc | apply pw_below_drewN | apply below_drew1 | refine below_set ?_ GE329.out | refine below_set ?_ GE335.out) | exact HB.out)))); have n2_ := Aside0.mk (blk_below (g := gb329) (o := .cells #[.int .i64 a1_0, .int .i64 a1_1, .string a1_2, .string a1_3, .bool a1_4, .string a1_5, .int .i64 a1_6, .bool a1_7, .int .i64 a1_8, .int .i64 a1_9, .int .i64 a1_10] 48 (0, 0)) (by (with_reducible repeat (first | refine blk_drewN ?_ _ | refine blk_drew ?_ | refine blk_alloc ?_ _)); refine blk_far ?_ NB329_335.out _; (with_reducible repeat (first | refine blk_drewN ?_ _ | refine blk_drew ?_ | refine blk_alloc ?_ _)); refine blk_far ?_ NB329_335.out _; (with_reducible repeat (first | refine blk_drewN ?_ _ | refine blk_drew ?_ | refine blk_alloc ?_ _)); refine blk_far ?_ NB329_335.out _; (with_reducible repeat (first | refine blk_drewN ?_ _ | refine blk_drew ?_ | refine blk_alloc ?_ _)); refine blk_far ?_ NB329_335.out _; (with_reducible repeat (first | refine blk_drewN ?_ _ | refine blk_drew ?_ | refine blk_alloc ?_ _)); exact BK329.out) hb); have n3_ := Aside0.mk (blk_below (g := gb335) (o := .cells #[.string ((rd_T24 l0 x28_2).f0), .bool ((rd_T24 l0 x28_2).f1), .int .i64 ((rd_T24 l0 x28_2).f2), .slice A334_3 ((rd_T24 l0 x28_2).f3).length c334_3] 24 (0, 0)) (by (with_reducible repeat (first | refine blk_drewN ?_ _ | refine blk_drew ?_ | refine blk_alloc ?_ _)); refine blk_put (cs := #[.string ((rd_T24 l0 x28_2).f0), .bool ((rd_T24 l0 x28_2).f1), .int .i64 ((rd_T24 l0 x28_2).f2), .slice none 0 0]) ?_ 3 _ rfl; (with_reducible repeat (first | refine blk_drewN ?_ _ | refine blk_drew ?_ | refine blk_alloc ?_ _)); refine blk_put (cs := #[.string ((rd_T24 l0 x28_2).f0), .bool ((rd_T24 l0 x28_2).f1), .int .i64 0, .slice none 0 0]) ?_ 2 _ rfl; (with_reducible repeat (first | refine blk_drewN ?_ _ | refine blk_drew ?_ | refine blk_alloc ?_ _)); refine blk_put (cs := #[.string ((rd_T24 l0 x28_2).f0), .bool false, .int .i64 0, .slice none 0 0]) ?_ 1 _ rfl; (with_reducible repeat (first | refine blk_drewN ?_ _ | refine blk_drew ?_ | refine blk_alloc ?_ _)); refine blk_put (cs := #[.string (⟨#[]⟩ : ByteArray), .bool false, .int .i64 0, .slice none 0 0]) ?_ 0 _ rfl; (with_reducible repeat (first | refine blk_drewN ?_ _ | refine blk_drew ?_ | refine blk_alloc ?_ _)); exact BK335.out) hb); have n4_ := Aside0.mk (below_step (by repeat (first | (with_reducible first | exact HB.out | apply below_alloc | apply pw_below_drewN | apply below_drew1 | refine below_set ?_ GE329.out | refine below_set ?_ GE335.out) | exact HB.out)) hb); clear HO_5; clear BK329; clear BK335; clear HB; have HO_5 := n0_; have HO338 := n1_; have BK329 := n2_; have BK335 := n3_; have HB := n4_; clear n0_ n1_ n2_ n3_ n4_; clear hb ho30; have hcz31_0 : w29.cell? ⟨gb335, 0, none⟩ = some (.string ((rd_T24 l0 x28_2).f0)) := (blk_cell BK335.out 0).trans rfl; have hcz31_1 : w29.cell? ⟨gb335, 1, none⟩ = some (.bool ((rd_T24 l0 x28_2).f1)) := (blk_cell BK335.out 1).trans rfl; have hcz31_2 : w29.cell? ⟨gb335, 2, none⟩ = some (.int .i64 ((rd_T24 l0 x28_2).f2)) := (blk_cell BK335.out 2).trans rfl; have hcz31_3 : w29.cell? ⟨gb335, 3, none⟩ = some (.slice A334_3 ((rd_T24 l0 x28_2).f3).length c334_3) := (blk_cell BK335.out 3).trans rfl; have hfz31_0 := blk_frozen BK335.out 0; have hfz31_1 := blk_frozen BK335.out 1; have hfz31_2 := blk_frozen BK335.out 2; have hfz31_3 := blk_frozen BK335.out 3) | ((with_reducible refine gate_builtin (b := .append) (xs := #[.tmp 32, .tmp 34]) rfl ?_); at_builtin; refine Kd.R_append_rows k39 (w0 := w) w.heap.size rfl (.tmp 32) (.tmp 34) 22 39 (.agg #[(.string ⟨#[]⟩), (.int .i64 0), (.bool false), (.int .i64 0), (.int .i64 0), (.int .i64 0)]) 56 rfl Try.underlying22 info39 rfl (by decide) (by omega) v337 y336 ((rd_T24 l0 x28_2).f3) _ _ _ (fun _ => True) (fun _ => False) rfl rfl ?aO ?aR (fun _ _ h => h) (fun _ h => h.elim) ?aF ?aB ?aS ?aL ?_; (case aR => repeat (first | exact (Kd.C_below HR334_3.out HB.out) | (with_reducible refine Kd.C_alloc ?_ _) | (with_reducible refine Kd.C_drewN ?_ _) | (with_reducible refine Kd.C_drew ?_))); (case aB => exact (by repeat (first | (with_reducible first | exact HB.out | apply below_alloc | apply pw_below_drewN | apply below_drew1 | refine below_set ?_ GE329.out | refine below_set ?_ GE335.out) | exact HB.out))); (case aF => exact (fun _ _ => trivial)); (case aO => exact (by (with_reducible repeat (first | apply Kd.R_alloc | apply Kd.R_drewN | apply Kd.R_drew)); exact HO338.out)); (case aS => exact (below_size (by repeat (first | (with_reducible first | exact HB.out | apply below_alloc | apply pw_below_drewN | apply below_drew1 | refine below_set ?_ GE329.out | refine below_set ?_ GE335.out) | exact HB.out)))); (case aL => have := LMc24.out; omega); intro v340 w32 ho hb hg hat; rw [← Ny339.out] at ho; have n0_ := Aside0.mk (Kd.S_after (ok := (fun k_ => k_ ≠ gb335)) (by (with_reducible repeat (first | apply Kd.S_alloc | apply Kd.S_drewN | apply Kd.S_drew)); exact Kd.S_mono HO_5.out (fun _ hk => ⟨hk.1.2, hk.2⟩)) hg hat); have n1_ := Aside0.mk (blk_grown (g := gb329) (o := .cells #[.int .i64 a1_0, .int .i64 a1_1, .string a1_2, .string a1_3, .bool a1_4, .string a1_5, .int .i64 a1_6, .bool a1_7, .int .i64 a1_8, .int .i64 a1_9, .int .i64 a1_10] 48 (0, 0)) (by (with_reducible repeat (first | refine blk_drewN ?_ _ | refine blk_drew ?_ | refine blk_alloc ?_ _)); exact BK329.out) hg (Kd.R_ne HO338.out BK329.out (by decide))); have n2_ := Aside0.mk (blk_grown (g := gb335) (o := .cells #[.string ((rd_T24 l0 x28_2).f0), .bool ((rd_T24 l0 x28_2).f1), .int .i64 ((rd_T24 l0 x28_2).f2), .slice A334_3 ((rd_T24 l0 x28_2).f3).length c334_3] 24 (0, 0)) (by (with_reducible repeat (first | refine blk_drewN ?_ _ | refine blk_drew ?_ | refine blk_alloc ?_ _)); exact BK335.out) hg (Kd.R_ne HO338.out BK335.out (by decide))); have n3_ := Aside0.mk (hb); have n4_ := Aside0.mk (ho); clear HO_5; clear BK329; clear BK335; clear HB; clear HO338; have HO_5 := n0_; have BK329 := n1_; have BK335 := n2_; have HB := n3_; have HO341 := n4_; clear n0_ n1_ n2_ n3_ n4_; clear ho hb hg hat; obtain ⟨Ao33, co33, eo33⟩ := Kd.R_slice HO341.out; subst eo33; have hcz34_0 : w32.cell? ⟨gb335, 0, none⟩ = some (.string ((rd_T24 l0 x28_2).f0)) := (blk_cell BK335.out 0).trans rfl; have hcz34_1 : w32.cell? ⟨gb335, 1, none⟩ = some (.bool ((rd_T24 l0 x28_2).f1)) := (blk_cell BK335.out 1).trans rfl; have hcz34_2 : w32.cell? ⟨gb335, 2, none⟩ = some (.int .i64 ((rd_T24 l0 x28_2).f2)) := (blk_cell BK335.out 2).trans rfl; have hcz34_3 : w32.cell? ⟨gb335, 3, none⟩ = some (.slice A334_3 ((rd_T24 l0 x28_2).f3).length c334_3) := (blk_cell BK335.out 3).trans rfl; have hfz34_0 := blk_frozen BK335.out 0; have hfz34_1 := blk_frozen BK335.out 1; have hfz34_2 := blk_frozen BK335.out 2; have hfz34_3 := blk_frozen BK335.out 3) | ((with_reducible refine gate_store (t := 22) (p := 36) rfl ?_); refine store_event (t := 22) (p := 36) (v := ?vo_w35) (w1 := (w32.setCell ⟨gb335, 3, none⟩ (.slice Ao33 y339.length co33))) ?hg ?ho ?hn ?hr ?_; (case ho => rfl); (case hg => rfl); (case hn => rfl); (case hr => first | (go_simp; done) | (go_simp; rfl)); intro w35 hw; have n0_ : Aside0 (Kd.S k24 24 w35 w.heap.size (fun k_ => some k_ ≠ (.slice Ao33 y339.length co33 : Value).ownBlock ∧ k_ ≠ gb335) u5 x5_2) := ⟨(by rw [hw]; exact (by (with_reducible repeat (first | apply Kd.S_alloc | apply Kd.S_drewN | apply Kd.S_drew)); exact Kd.S_mono (Kd.S_far (p := ⟨gb335, 3, none⟩) (Kd.S_mono HO_5.out (fun k_ hk => (⟨hk, hk.1⟩ : _ ∧ k_ ≠ gb335))) (fun _ hk => hk.2) (.slice Ao33 y339.length co33)) (fun _ hk => ⟨hk.1.2, hk.1.1⟩)))⟩; have n1_ : Aside0 (Kd.R k39 39 w35 w.heap.size (fun _ => True) (.slice Ao33 y339.length co33) y339) := ⟨(by rw [hw]; exact (by (with_reducible repeat (first | apply Kd.R_alloc | apply Kd.R_drewN | apply Kd.R_drew)); exact Kd.R_mono (Kd.R_far (p := ⟨gb335, 3, none⟩) (Kd.R_types HO341.out BK335.out (by decide)) (fun _ hk => hk.2) (.slice Ao33 y339.length co33)) (fun _ hk => trivial)))⟩; have n2_ : Aside0 (w35.heap[gb329]? = some (.cells #[.int .i64 a1_0, .int .i64 a1_1, .string a1_2, .string a1_3, .bool a1_4, .string a1_5, .int .i64 a1_6, .bool a1_7, .int .i64 a1_8, .int .i64 a1_9, .int .i64 a1_10] 48 (0, 0))) := ⟨(by rw [hw]; exact (by (with_reducible repeat (first | refine blk_drewN ?_ _ | refine blk_drew ?_ | refine blk_alloc ?_ _)); refine blk_far ?_ NB329_335.out _; (with_reducible repeat (first | refine blk_drewN ?_ _ | refine blk_drew ?_ | refine blk_alloc ?_ _)); exact BK329.out))⟩; have n3_ : Aside0 (w35.heap[gb335]? = some (.cells #[.string ((rd_T24 l0 x28_2).f0), .bool ((rd_T24 l0 x28_2).f1), .int .i64 ((rd_T24 l0 x28_2).f2), .slice Ao33 y339.length co33] 24 (0, 0))) := ⟨(by rw [hw]; exact (by (with_reducible repeat (first | refine blk_drewN ?_ _ | refine blk_drew ?_ | refine blk_alloc ?_ _)); refine blk_put (cs := #[.string ((rd_T24 l0 x28_2).f0), .bool ((rd_T24 l0 x28_2).f1), .int .i64 ((rd_T24 l0 x28_2).f2), .slice A334_3 ((rd_T24 l0 x28_2).f3).length c334_3]) ?_ 3 _ rfl; (with_reducible repeat (first | refine blk_drewN ?_ _ | refine blk_drew ?_ | refine blk_alloc ?_ _)); exact BK335.out))⟩; have n4_ : Aside0 (Below w.heap.size w w35) := ⟨(by rw [hw]; exact (by repeat (first | (with_reducible first | exact HB.out | apply below_alloc | apply pw_below_drewN | apply below_drew1 | refine below_set ?_ GE329.out | refine below_set ?_ GE335.out) | exact HB.out)))⟩; clear hw; clear HO_5; clear HO341; clear BK329; clear BK335; clear HB; have HO_5 := n0_; have HO341 := n1_; have BK329 := n2_; have BK335 := n3_; have HB := n4_; clear n0_ n1_ n2_ n3_ n4_; have hcz36_0 : w35.cell? ⟨gb335, 0, none⟩ = some (.string ((rd_T24 l0 x28_2).f0)) := (blk_cell BK335.out 0).trans rfl; have hcz36_1 : w35.cell? ⟨gb335, 1, none⟩ = some (.bool ((rd_T24 l0 x28_2).f1)) := (blk_cell BK335.out 1).trans rfl; have hcz36_2 : w35.cell? ⟨gb335, 2, none⟩ = some (.int .i64 ((rd_T24 l0 x28_2).f2)) := (blk_cell BK335.out 2).trans rfl; have hcz36_3 : w35.cell? ⟨gb335, 3, none⟩ = some (.slice Ao33 y339.length co33) := (blk_cell BK335.out 3).trans rfl; have hfz36_0 := blk_frozen BK335.out 0; have hfz36_1 := blk_frozen BK335.out 1; have hfz36_2 := blk_frozen BK335.out 2; have hfz36_3 := blk_frozen BK335.out 3) | ((with_reducible refine gate_builtin (b := .append) (xs := #[.tmp 37, .tmp 39]) rfl ?_); at_builtin; refine Kd.S_append k24 (w0 := w) w.heap.size rfl (.tmp 37) (.tmp 39) 26 24 (.agg #[(.string ⟨#[]⟩), (.bool false), (.int .i64 0), (.slice none 0 0)]) 56 rfl Try.underlying26 info24 rfl (by decide) (by omega) u5 x5_2 (⟨(rd_T24 l0 x28_2).f0, (rd_T24 l0 x28_2).f1, (rd_T24 l0 x28_2).f2, y339⟩ : S24) [.string ((rd_T24 l0 x28_2).f0), .bool ((rd_T24 l0 x28_2).f1), .int .i64 ((rd_T24 l0 x28_2).f2), .slice Ao33 y339.length co33] (fun k_ => k_ ≠ gb335) (fun k_ => some k_ = (.slice Ao33 y339.length co33 : Value).ownBlock) rfl rfl ?aP (fun k_ hk_ => ((Kd.R_mono (ok' := fun k_ => ((fun k_ => k_ ≠ gb335)) k_ ∧ some k_ ≠ (u5 : Value).ownBlock) (Kd.R_types (Kd.R_apart' (HO341.out) (Kd.S_typed HO_5.out) (by decide)) BK335.out (by decide)) (fun k_ hk => ⟨hk.2, hk.1.2⟩))).1 k_ hk_.symm) ?aF ?aO ?aB ?aS ?aL ?_; (case aP => exact k24_mkM _ _ _ (⟨(rd_T24 l0 x28_2).f0, (rd_T24 l0 x28_2).f1, (rd_T24 l0 x28_2).f2, y339⟩ : S24) (Kd.R_mono (Kd.R_tight rfl (Kd.R_mono (ok' := fun k_ => ((fun k_ => k_ ≠ gb335)) k_ ∧ some k_ ≠ (u5 : Value).ownBlock) (Kd.R_types (Kd.R_apart' (HO341.out) (Kd.S_typed HO_5.out) (by decide)) BK335.out (by decide)) (fun k_ hk => ⟨hk.2, hk.1.2⟩))) (fun _ h_ => h_))); (case aB => exact (by repeat (first | (with_reducible first | exact HB.out | apply below_alloc | apply pw_below_drewN | apply below_drew1 | refine below_set ?_ GE329.out | refine below_set ?_ GE335.out) | exact HB.out))); (case aF => exact (fun k_ hk => Kd.freshB (g := gb335) (o := .cells #[.string ((rd_T24 l0 x28_2).f0), .bool ((rd_T24 l0 x28_2).f1), .int .i64 ((rd_T24 l0 x28_2).f2), .slice Ao33 y339.length co33] 24 (0, 0)) (by (with_reducible repeat (first | refine blk_drewN ?_ _ | refine blk_drew ?_ | refine blk_alloc ?_ _)); exact BK335.out) k_ hk)); (case aO => exact (by (with_reducible repeat (first | apply Kd.S_alloc | apply Kd.S_drewN | apply Kd.S_drew)); exact Kd.S_mono HO_5.out (fun k_ hk => ⟨hk.2, fun e_ => hk.1 e_⟩))); (case aS => exact (below_size (by repeat (first | (with_reducible first | exact HB.out | apply below_alloc | apply pw_below_drewN | apply below_drew1 | refine below_set ?_ GE329.out | refine below_set ?_ GE335.out) | exact HB.out)))); (case aL => have := LMc25.out; omega); intro v343 w37 ho hb hg hat; rw [← Ny342.out] at ho; have n0_ := Aside0.mk (blk_grown (g := gb329) (o := .cells #[.int .i64 a1_0, .int .i64 a1_1, .string a1_2, .string a1_3, .bool a1_4, .string a1_5, .int .i64 a1_6, .bool a1_7, .int .i64 a1_8, .int .i64 a1_9, .int .i64 a1_10] 48 (0, 0)) (by (with_reducible repeat (first | refine blk_drewN ?_ _ | refine blk_drew ?_ | refine blk_alloc ?_ _)); exact BK329.out) hg (Kd.S_ne HO_5.out BK329.out (by decide))); have n1_ := Aside0.mk (blk_grown (g := gb335) (o := .cells #[.string ((rd_T24 l0 x28_2).f0), .bool ((rd_T24 l0 x28_2).f1), .int .i64 ((rd_T24 l0 x28_2).f2), .slice Ao33 y339.length co33] 24 (0, 0)) (by (with_reducible repeat (first | refine blk_drewN ?_ _ | refine blk_drew ?_ | refine blk_alloc ?_ _)); exact BK335.out) hg (Kd.S_away HO_5.out (fun _ hk => hk.2))); have n2_ := Aside0.mk (hb); have n3_ := Aside0.mk (ho); clear BK329; clear BK335; clear HB; clear HO_5; clear HO341; have BK329 := n0_; have BK335 := n1_; have HB := n2_; have HO344 := n3_; clear n0_ n1_ n2_ n3_; clear ho hb hg hat))
           go_roundg k2
           case measure => have := HJ2.out; have := HK2.out; omega
           case rel => exact ⟨(y342), (wrap64 (x28_2 + 1)), (by first | rfl | (simp; done) | (simp [*]; done)), H', ⟨by have := HJ2.out; have := HK2.out; omega⟩, ⟨by (with_reducible repeat (first | apply Kd.S_alloc | apply Kd.S_drewN | apply Kd.S_drew)); exact Kd.S_mono HO344.out (fun _ hk => trivial)⟩, ⟨by (with_reducible repeat (first | refine blk_drewN ?_ _ | refine blk_drew ?_ | refine blk_alloc ?_ _)); exact BK329.out⟩, ⟨by repeat (first | (with_reducible first | exact HB.out | apply below_alloc | apply pw_below_drewN | apply below_drew1 | refine below_set ?_ GE329.out | refine below_set ?_ GE335.out) | exact HB.out)⟩⟩
          ·rw [if_neg c25] at H
           exact absurd H (by simp)
         ·rw [if_neg c24] at H
          exact absurd H (by simp)
        ·rw [if_neg c23] at H
         exact absurd H (by simp)
       ·rw [if_neg c22] at H
        exact absurd H (by simp)
      ·rw [if_neg c21] at H
       have c21b0 : decide (x28_2 < (l0.length : Int)) = false := decide_eq_false c21
       clear c21
       replace H := Option.bind_eq_some_iff.mp H
       obtain ⟨⟨t345, t348⟩, A380, H⟩ := H
       replace H : (chicanelaw14_NamesOwn.l1 k2 l0 x5_2 t345 (t345.length : Int) 0) = some r := H
       have A38 := Aside0.mk A380
       clear A380
       have H' := Aside0.mk H
       clear H
       have hcz39_0 : wr.cell? ⟨gb329, 0, none⟩ = some (.int .i64 a1_0) := (blk_cell BK329.out 0).trans rfl
       have hcz39_1 : wr.cell? ⟨gb329, 1, none⟩ = some (.int .i64 a1_1) := (blk_cell BK329.out 1).trans rfl
       have hcz39_2 : wr.cell? ⟨gb329, 2, none⟩ = some (.string a1_2) := (blk_cell BK329.out 2).trans rfl
       have hcz39_3 : wr.cell? ⟨gb329, 3, none⟩ = some (.string a1_3) := (blk_cell BK329.out 3).trans rfl
       have hcz39_4 : wr.cell? ⟨gb329, 4, none⟩ = some (.bool a1_4) := (blk_cell BK329.out 4).trans rfl
       have hcz39_5 : wr.cell? ⟨gb329, 5, none⟩ = some (.string a1_5) := (blk_cell BK329.out 5).trans rfl
       have hcz39_6 : wr.cell? ⟨gb329, 6, none⟩ = some (.int .i64 a1_6) := (blk_cell BK329.out 6).trans rfl
       have hcz39_7 : wr.cell? ⟨gb329, 7, none⟩ = some (.bool a1_7) := (blk_cell BK329.out 7).trans rfl
       have hcz39_8 : wr.cell? ⟨gb329, 8, none⟩ = some (.int .i64 a1_8) := (blk_cell BK329.out 8).trans rfl
       have hcz39_9 : wr.cell? ⟨gb329, 9, none⟩ = some (.int .i64 a1_9) := (blk_cell BK329.out 9).trans rfl
       have hcz39_10 : wr.cell? ⟨gb329, 10, none⟩ = some (.int .i64 a1_10) := (blk_cell BK329.out 10).trans rfl
       have hfz39_0 := blk_frozen BK329.out 0
       have hfz39_1 := blk_frozen BK329.out 1
       have hfz39_2 := blk_frozen BK329.out 2
       have hfz39_3 := blk_frozen BK329.out 3
       have hfz39_4 := blk_frozen BK329.out 4
       have hfz39_5 := blk_frozen BK329.out 5
       have hfz39_6 := blk_frozen BK329.out 6
       have hfz39_7 := blk_frozen BK329.out 7
       have hfz39_8 := blk_frozen BK329.out 8
       have hfz39_9 := blk_frozen BK329.out 9
       have hfz39_10 := blk_frozen BK329.out 10
       go_wp2_with (first | ((with_reducible refine gate_callee (f := 24) rfl ?_); refine goesL_ (some 45) rfl rfl Try.func24 (by kernel_rfl) rfl #[.slice A0 l0.length c0, .agg #[.int .i64 a1_0, .int .i64 a1_1, .string a1_2, .string a1_3, .bool a1_4, .string a1_5, .int .i64 a1_6, .bool a1_7, .int .i64 a1_8, .int .i64 a1_9, .int .i64 a1_10]] rfl (by (try simp only [List.map_toArray, List.map_cons, List.map_nil]); first | done | rfl | (simp only [List.length_drop, List.length_take]; rfl)) ?_; (with_reducible refine (chicanelaw14_does.calls k2 _ _ l0 a1_0 a1_1 a1_2 a1_3 a1_4 a1_5 a1_6 a1_7 a1_8 a1_9 a1_10 t345 t348 _ ?side1 ?side2 A38.out).mono ?_); (case side1 => repeat (first | exact (Kd.C_below HR0.out HB.out) | (with_reducible refine Kd.C_alloc ?_ _) | (with_reducible refine Kd.C_drewN ?_ _) | (with_reducible refine Kd.C_drew ?_))); (case side2 => exact HC0.out); rintro e w40 ⟨v346, rfl, ho0, hb⟩; refine ⟨_, rfl, ?_⟩; obtain ⟨NN, o5_, o8_⟩ := own_apart (by (with_reducible repeat (first | apply Kd.S_alloc | apply Kd.S_drewN | apply Kd.S_drew)); exact HO_5.out) ho0 hb (below_size (by repeat (first | (with_reducible first | exact HB.out | apply below_alloc | apply pw_below_drewN | apply below_drew1 | refine below_set ?_ GE329.out) | exact HB.out))); have n0_ := Aside0.mk o5_; have n1_ := Aside0.mk o8_; clear o5_ o8_; have n2_ := Aside0.mk (blk_below (g := gb329) (o := .cells #[.int .i64 a1_0, .int .i64 a1_1, .string a1_2, .string a1_3, .bool a1_4, .string a1_5, .int .i64 a1_6, .bool a1_7, .int .i64 a1_8, .int .i64 a1_9, .int .i64 a1_10] 48 (0, 0)) (by (with_reducible repeat (first | refine blk_drewN ?_ _ | refine blk_drew ?_ | refine blk_alloc ?_ _)); exact BK329.out) hb); have n3_ := Aside0.mk (below_step (by repeat (first | (with_reducible first | exact HB.out | apply below_alloc | apply pw_below_drewN | apply below_drew1 | refine below_set ?_ GE329.out) | exact HB.out)) hb); clear HO_5; clear BK329; clear HB; have HO_5 := n0_; have HO347 := n1_; have BK329 := n2_; have HB := n3_; clear n0_ n1_ n2_ n3_; (try clear hb); (try clear hb2); (try clear hk); (try clear hi); (try clear ho0); obtain ⟨Ao41, co41, eo41⟩ := Kd.S_slice HO347.out; subst eo41))
       go_loopg [50] k2 (fun kq v50 w' => ∃ (x8_3 : List (S24)) (x50_3 : Int), v50 = .int .i64 x50_3 ∧ Aside0 (chicanelaw14_NamesOwn.l1 kq l0 x5_2 x8_3 (t345.length : Int) x50_3 = some r) ∧ Aside0 (kq ≤ k2) ∧ Aside0 (Kd.S k24 24 w' w.heap.size (fun k_ => k_ < NN) u5 x5_2) ∧ Aside0 (Kd.S k24 24 w' w.heap.size (fun k_ => NN ≤ k_) (.slice Ao41 t345.length co41) x8_3) ∧ Aside0 (w'.heap[gb329]? = some (.cells #[.int .i64 a1_0, .int .i64 a1_1, .string a1_2, .string a1_3, .bool a1_4, .string a1_5, .int .i64 a1_6, .bool a1_7, .int .i64 a1_8, .int .i64 a1_9, .int .i64 a1_10] 48 (0, 0))) ∧ Aside0 (Below w.heap.size w w'))
       case atStart => exact ⟨(t345), (0), (by first | rfl | (simp; done) | (simp [*]; done)), H', ⟨Nat.le_refl _⟩, ⟨by (with_reducible repeat (first | apply Kd.S_alloc | apply Kd.S_drewN | apply Kd.S_drew)); exact HO_5.out⟩, ⟨by (with_reducible repeat (first | apply Kd.S_alloc | apply Kd.S_drewN | apply Kd.S_drew)); exact HO347.out⟩, ⟨by (with_reducible repeat (first | refine blk_drewN ?_ _ | refine blk_drew ?_ | refine blk_alloc ?_ _)); exact BK329.out⟩, ⟨by repeat (first | (with_reducible first | exact HB.out | apply below_alloc | apply pw_below_drewN | apply below_drew1 | refine below_set ?_ GE329.out) | exact HB.out)⟩⟩
       case round =>
        clear H'
        try clear c1
        try clear c2
        try clear p2
        try clear c3
        try clear p3
        try clear q3
        try clear hx3
        try clear c6
        try clear p6
        try clear c7
        try clear c8
        try clear c18
        try clear c21
        try clear c21b0
        try clear c22
        try clear c22b0
        try clear c23
        try clear c23b0
        try clear c24
        try clear c25
        try clear c27
        try clear c33
        try clear p33
        try clear q33
        try clear hx33
        try clear hcz11_0
        try clear hcz11_1
        try clear hcz11_10
        try clear hcz11_2
        try clear hcz11_3
        try clear hcz11_4
        try clear hcz11_5
        try clear hcz11_6
        try clear hcz11_7
        try clear hcz11_8
        try clear hcz11_9
        try clear hcz15_0
        try clear hcz15_1
        try clear hcz15_10
        try clear hcz15_2
        try clear hcz15_3
        try clear hcz15_4
        try clear hcz15_5
        try clear hcz15_6
        try clear hcz15_7
        try clear hcz15_8
        try clear hcz15_9
        try clear hcz28_0
        try clear hcz28_1
        try clear hcz28_2
        try clear hcz28_3
        try clear hcz31_0
        try clear hcz31_1
        try clear hcz31_2
        try clear hcz31_3
        try clear hcz34_0
        try clear hcz34_1
        try clear hcz34_2
        try clear hcz34_3
        try clear hcz36_0
        try clear hcz36_1
        try clear hcz36_2
        try clear hcz36_3
        try clear hcz39_0
        try clear hcz39_1
        try clear hcz39_10
        try clear hcz39_2
        try clear hcz39_3
        try clear hcz39_4
        try clear hcz39_5
        try clear hcz39_6
        try clear hcz39_7
        try clear hcz39_8
        try clear hcz39_9
        try clear hfz11_0
        try clear hfz11_1
        try clear hfz11_10
        try clear hfz11_2
        try clear hfz11_3
        try clear hfz11_4
        try clear hfz11_5
        try clear hfz11_6
        try clear hfz11_7
        try clear hfz11_8
        try clear hfz11_9
        try clear hfz15_0
        try clear hfz15_1
        try clear hfz15_10
        try clear hfz15_2
        try clear hfz15_3
        try clear hfz15_4
        try clear hfz15_5
        try clear hfz15_6
        try clear hfz15_7
        try clear hfz15_8
        try clear hfz15_9
        try clear hfz28_0
        try clear hfz28_1
        try clear hfz28_2
        try clear hfz28_3
        try clear hfz31_0
        try clear hfz31_1
        try clear hfz31_2
        try clear hfz31_3
        try clear hfz34_0
        try clear hfz34_1
        try clear hfz34_2
        try clear hfz34_3
        try clear hfz36_0
        try clear hfz36_1
        try clear hfz36_2
        try clear hfz36_3
        try clear hfz39_0
        try clear hfz39_1
        try clear hfz39_10
        try clear hfz39_2
        try clear hfz39_3
        try clear hfz39_4
        try clear hfz39_5
        try clear hfz39_6
        try clear hfz39_7
        try clear hfz39_8
        try clear hfz39_9
        try clear hx334_0
        try clear hx334_1
        try clear hx334_2
        try clear hx334_3
        try clear p2
        try clear p334
        try clear q334
        obtain ⟨x8_3, x50_3, rfl, HA, HK3, HO_5, HO_8, BK329, HB⟩ := hrel
        have hl8_3 := (Kd.S_reads' HO_8.out).1
        rw [hl8_3] at HO_8
        (try simp only [hl8_3])
        (try simp only [hl8_3] at BK329)
        (try simp only [hl8_3] at HO_5)
        cases gk with
        | zero => exact absurd HA.out (by simp [chicanelaw14_NamesOwn.l1])
        | succ k3 =>
         have H := HA.out
         clear HA
         simp only [chicanelaw14_NamesOwn.l1] at H
         by_cases c42 : x50_3 < (t345.length : Int)
         ·rw [if_pos c42] at H
          have c42b0 : decide (x50_3 < (t345.length : Int)) = true := decide_eq_true c42
          clear c42
          by_cases c43 : 0 ≤ x50_3
          ·rw [if_pos c43] at H
           have c43b0 : decide (0 ≤ x50_3) = true := decide_eq_true c43
           clear c43
           by_cases c44 : x50_3 < (x8_3.length : Int)
           ·rw [if_pos c44] at H
            have c44b0 : decide (x50_3 < (x8_3.length : Int)) = true := decide_eq_true c44
            clear c44
            obtain ⟨y351, hy351⟩ : ∃ y_ : List (S24), y_ = (x8_3.set (x50_3 : Int).toNat (⟨(rd_T24 x8_3 x50_3).f0, (rd_T24 x8_3 x50_3).f1, 1, (rd_T24 x8_3 x50_3).f3⟩ : S24)) := ⟨_, rfl⟩
            replace H : (chicanelaw14_NamesOwn.l2 k3 l0 x5_2 y351 x50_3 (t345.length : Int) x50_3 (((rd_T24 y351 x50_3).f3).length : Int) 0) = some r := by first | (rw [hy351]; with_reducible exact H) | (have H2_ := (Option.bind_some _ _).symm.trans H; rw [hy351]; with_reducible exact H2_) | (have H2_ := (Option.bind_some _ _).symm.trans H; with_reducible exact H2_) | with_reducible exact H | (rw [hy351]; exact H) | exact H
            have Ny351 := Aside0.mk hy351
            clear hy351
            have H' := Aside0.mk H
            clear H
            have p45 : 0 ≤ (x50_3 : Int) := of_decide_eq_true (by first | (with_reducible assumption) | assumption)
            have q45 : (x50_3 : Int) < ((x8_3.length : Int) : Int) := of_decide_eq_true (by first | (with_reducible assumption) | assumption)
            obtain ⟨go45, co45, eo45, gb45, gl45, cl45, HG45⟩ := Kd.S_form HO_8.out (by omega)
            (first | cases eo45 | (injection eo45 with ea_ en_ ec_; (first | subst ea_ | (injection ea_ with ea_; subst ea_)); subst ec_; clear en_))
            have GB45 := Aside0.mk gb45
            have GG45 := Aside0.mk HG45
            clear gb45 gl45 HG45
            obtain ⟨_, ce45, hcl45, hM45, hcc45, hfr45, _, _⟩ := Kd.S_elem HO_8.out z24 (x50_3 : Int) p45 q45
            obtain ⟨ve45_3, rfl, ge45_3⟩ := k24_openM hM45
            have hx45_0 : wr.cell? ⟨go45, (x50_3 : Int).toNat * 4, none⟩ = some (.string ((rd_T24 x8_3 x50_3).f0)) := hcc45 0 _ rfl
            have hx45_1 : wr.cell? ⟨go45, (x50_3 : Int).toNat * 4 + 1, none⟩ = some (.bool ((rd_T24 x8_3 x50_3).f1)) := hcc45 1 _ rfl
            have hx45_2 : wr.cell? ⟨go45, (x50_3 : Int).toNat * 4 + 2, none⟩ = some (.int .i64 ((rd_T24 x8_3 x50_3).f2)) := hcc45 2 _ rfl
            have hx45_3 : wr.cell? ⟨go45, (x50_3 : Int).toNat * 4 + 3, none⟩ = some (ve45_3) := hcc45 3 _ rfl
            have hf45_0 : wr.frozen? ⟨go45, (x50_3 : Int).toNat * 4, none⟩ = false := hfr45 0
            have hf45_1 : wr.frozen? ⟨go45, (x50_3 : Int).toNat * 4 + 1, none⟩ = false := hfr45 1
            have hf45_2 : wr.frozen? ⟨go45, (x50_3 : Int).toNat * 4 + 2, none⟩ = false := hfr45 2
            have hf45_3 : wr.frozen? ⟨go45, (x50_3 : Int).toNat * 4 + 3, none⟩ = false := hfr45 3
            clear hcl45 hcc45 hfr45 hM45
            replace p45 := eq_true p45
            replace q45 := eq_true q45
            have HX46 := Aside0.mk (show Kd.S k24 24 wr w.heap.size (fun k_ => ((fun k_ => NN ≤ k_)) k_ ∧ ¬ ((fun _ => False)) k_) (.slice (some ⟨go45, 0, none⟩) x8_3.length co41) x8_3 from (by (with_reducible repeat (first | apply Kd.S_alloc | apply Kd.S_drewN | apply Kd.S_drew)); exact Kd.S_mono HO_8.out (fun k_ hk => ⟨hk, fun e_ => e_⟩)))
            obtain ⟨oki46, ce46, hcl46, hM46, hcc46, hfr46, hoki46, hH46⟩ := Kd.S_elem HX46.out z24 (x50_3 : Int) (of_decide_eq_true (by first | (with_reducible assumption) | assumption)) (by have h_ : (x50_3 : Int) < ((x8_3.length : Int) : Int) := of_decide_eq_true (by first | (with_reducible assumption) | assumption); first | exact h_ | (have e_ := (Kd.S_reads' HO_8.out).1; omega) | simpa using h_)
            obtain ⟨ve46_3, rfl, ge46_3⟩ := k24_openM hM46
            have HP46 := Kd.S_seg hH46 (of_decide_eq_true (by first | (with_reducible assumption) | assumption)) (by have h_ : (x50_3 : Int) < ((x8_3.length : Int) : Int) := of_decide_eq_true (by first | (with_reducible assumption) | assumption); first | exact h_ | (have e_ := (Kd.S_reads' HO_8.out).1; omega) | simpa using h_) (seg := [.int .i64 1]) (j := 2) (show 3 ≤ 4 from by decide) (x' := (⟨(rd_T24 x8_3 x50_3).f0, (rd_T24 x8_3 x50_3).f1, 1, (rd_T24 x8_3 x50_3).f3⟩ : S24)) (k24_mkM _ _ _ (⟨(rd_T24 x8_3 x50_3).f0, (rd_T24 x8_3 x50_3).f1, 1, (rd_T24 x8_3 x50_3).f3⟩ : S24) (Kd.R_mono ge46_3 (fun _ h_ => Or.inl h_))) (fun _ hk => hk) (fun k_ hk_ => hk_.elim)
            have hx46_2 := hcc46 2 _ rfl
            (try simp only [show (k24).sz = 4 from rfl, Nat.mul_one, Nat.add_zero] at hx46_2)
            have hf46_2 := hfr46 2
            (try simp only [show (k24).sz = 4 from rfl, Nat.mul_one, Nat.add_zero] at hf46_2)
            clear hcl46 hcc46 hfr46 hM46 hoki46 hH46
            go_wp2_with (first | ((with_reducible refine gate_store (t := 3) (p := 56) rfl ?_); refine store_event (t := 3) (p := 56) (v := ?vo_w47) (w1 := (wr.setCell ⟨go45, (x50_3 : Int).toNat * 4 + 2, none⟩ (.int .i64 1))) ?hg ?ho ?hn ?hr ?_; (case ho => rfl); (case hg => rfl); (case hn => rfl); (case hr => first | (go_simp; done) | (go_simp; rfl)); intro w47 hw; have hg : wr.grownBy w47 (some go45) := (by rw [hw]; exact HP46.2); have hp_ : Kd.S k24 24 w47 w.heap.size (fun k_ => NN ≤ k_) (.slice (some ⟨go45, 0, none⟩) x8_3.length co41) y351 := (by rw [hw, Ny351.out]; exact HP46.1); clear HP46; have n0_ := Aside0.mk (Kd.S_grown (by (with_reducible repeat (first | apply Kd.S_alloc | apply Kd.S_drewN | apply Kd.S_drew)); exact HO_5.out) hg (fun k_ hk_ e_ => Nat.lt_irrefl _ (Nat.lt_of_lt_of_le hk_ (by injection e_ with e_; rw [e_]; exact (Kd.S_R HO_8.out).1 _ rfl)))); have n1_ := Aside0.mk (hp_); have n2_ := Aside0.mk (blk_grown (g := gb329) (o := .cells #[.int .i64 a1_0, .int .i64 a1_1, .string a1_2, .string a1_3, .bool a1_4, .string a1_5, .int .i64 a1_6, .bool a1_7, .int .i64 a1_8, .int .i64 a1_9, .int .i64 a1_10] 48 (0, 0)) (by (with_reducible repeat (first | refine blk_drewN ?_ _ | refine blk_drew ?_ | refine blk_alloc ?_ _)); exact BK329.out) hg (Kd.S_ne HO_8.out BK329.out (by decide))); have n3_ := Aside0.mk ((by rw [hw]; exact below_set (HB.out) GB45.out : Below w.heap.size w w47)); clear HO_5; clear HO_8; clear BK329; clear HB; have HO_5 := n0_; have HO_8 := n1_; have BK329 := n2_; have HB := n3_; clear n0_ n1_ n2_ n3_; clear hg hw hp_; have p352 : 0 ≤ (x50_3 : Int) := of_decide_eq_true (by first | (with_reducible assumption) | assumption); have q352 : x50_3 < (y351.length : Int) := (by have h_ : (x50_3 : Int) < ((x8_3.length : Int) : Int) := of_decide_eq_true (by first | (with_reducible assumption) | assumption); first | (have e_ := (Kd.S_reads' HO_8.out).1; omega) | simpa only [Ny351.out, List.length_set] using h_); have ql352 : ((x50_3 : Int) < ((x8_3.length : Int) : Int)) = True := eq_true (of_decide_eq_true (by first | (with_reducible assumption) | assumption)); obtain ⟨ad352, A352_3, c352_3, e352, hx352_0, hx352_1, hx352_2, hx352_3, hl352_3, hi352_3⟩ := at_T24 (Kd.S_reads' HO_8.out).2.2 x50_3 p352 q352; obtain rfl : (⟨go45, 0, none⟩ : Addr) = ad352 := (by injection e352); obtain ⟨ce352, hce352, hMe352, hcc352⟩ := Kd.S_get HO_8.out z24 x50_3 p352 (by first | exact q352 | exact of_decide_eq_true (by first | (with_reducible assumption) | assumption) | (have e_ := (Kd.S_reads' HO_8.out).1; omega)); obtain ⟨ve352_3, rfl, ge352_3⟩ := k24_openM hMe352; have hv352_3 := hcc352 3 _ rfl; rw [add_field _ _ 3 (by omega)] at hv352_3; replace hv352_3 := Option.some.inj (hv352_3.symm.trans hx352_3); rw [hv352_3] at ge352_3; have HL352_3 := Aside0.mk (show Kd.R k39 39 _ _ _ _ ((rd_T24 y351 x50_3).f3) from ge352_3); clear hv352_3 ge352_3; have HX352_3 := Aside0.mk hx352_3; clear hcc352 hce352; (first | simp only [add_plain] at hx352_0 | simp only [add_at] at hx352_0 | simp only [Addr.add, Nat.zero_add] at hx352_0 | skip); (first | simp only [add_plain] at hx352_1 | simp only [add_at] at hx352_1 | simp only [Addr.add, Nat.zero_add] at hx352_1 | skip); (first | simp only [add_plain] at hx352_2 | simp only [add_at] at hx352_2 | simp only [Addr.add, Nat.zero_add] at hx352_2 | skip); (first | simp only [add_plain] at hx352_3 | simp only [add_at] at hx352_3 | simp only [Addr.add, Nat.zero_add] at hx352_3 | skip); have HR352_3 := Aside0.mk hi352_3; have HC352_3 := Aside0.mk hl352_3; clear hi352_3 hl352_3; replace p352 := eq_true p352; replace q352 := eq_true q352))
            go_loopg [63] k3 (fun kq v63 w' => ∃ (x8_4 : List (S24)) (x63_4 : Int), v63 = .int .i64 x63_4 ∧ Aside0 (chicanelaw14_NamesOwn.l2 kq l0 x5_2 x8_4 x50_3 (t345.length : Int) x50_3 (((rd_T24 y351 x50_3).f3).length : Int) x63_4 = some r) ∧ Aside0 (kq ≤ k3) ∧ Aside0 (Kd.S k24 24 w' w.heap.size (fun k_ => k_ < NN) u5 x5_2) ∧ Aside0 (Kd.S k24 24 w' w.heap.size (fun k_ => NN ≤ k_) (.slice (some ⟨go45, 0, none⟩) x8_3.length co41) x8_4) ∧ Aside0 (w'.heap[gb329]? = some (.cells #[.int .i64 a1_0, .int .i64 a1_1, .string a1_2, .string a1_3, .bool a1_4, .string a1_5, .int .i64 a1_6, .bool a1_7, .int .i64 a1_8, .int .i64 a1_9, .int .i64 a1_10] 48 (0, 0))) ∧ Aside0 (Below w.heap.size w w'))
            case atStart => exact ⟨(y351), (0), (by first | rfl | (simp; done) | (simp [*]; done)), H', ⟨Nat.le_refl _⟩, ⟨by (try simp only [hl8_3]); (with_reducible repeat (first | apply Kd.S_alloc | apply Kd.S_drewN | apply Kd.S_drew)); exact HO_5.out⟩, ⟨by (try simp only [hl8_3]); (with_reducible repeat (first | apply Kd.S_alloc | apply Kd.S_drewN | apply Kd.S_drew)); exact HO_8.out⟩, ⟨by (try simp only [hl8_3]); (with_reducible repeat (first | refine blk_drewN ?_ _ | refine blk_drew ?_ | refine blk_alloc ?_ _)); exact BK329.out⟩, ⟨by repeat (first | (with_reducible first | exact HB.out | apply below_alloc | apply pw_below_drewN | apply below_drew1 | refine below_set ?_ GE329.out) | exact HB.out)⟩⟩
            case round =>
             clear H'
             try clear c1
             try clear c2
             try clear p2
             try clear c3
             try clear p3
             try clear q3
             try clear hx3
             try clear c4
             try clear p4
             try clear q4
             try clear hx4
             try clear hf4
             try clear c6
             try clear p6
             try clear c7
             try clear c8
             try clear c18
             try clear c21
             try clear c21b0
             try clear c22
             try clear c22b0
             try clear c23
             try clear c23b0
             try clear c24
             try clear c25
             try clear c27
             try clear c33
             try clear p33
             try clear q33
             try clear hx33
             try clear c35
             try clear p35
             try clear q35
             try clear hx35
             try clear c42
             try clear c42b0
             try clear c43
             try clear c43b0
             try clear c44
             try clear c44b0
             try clear c45
             try clear p45
             try clear q45
             try clear hx45
             try clear hf45
             try clear c46
             try clear hx46
             try clear hf46
             try clear hcz11_0
             try clear hcz11_1
             try clear hcz11_10
             try clear hcz11_2
             try clear hcz11_3
             try clear hcz11_4
             try clear hcz11_5
             try clear hcz11_6
             try clear hcz11_7
             try clear hcz11_8
             try clear hcz11_9
             try clear hcz15_0
             try clear hcz15_1
             try clear hcz15_10
             try clear hcz15_2
             try clear hcz15_3
             try clear hcz15_4
             try clear hcz15_5
             try clear hcz15_6
             try clear hcz15_7
             try clear hcz15_8
             try clear hcz15_9
             try clear hcz28_0
             try clear hcz28_1
             try clear hcz28_2
             try clear hcz28_3
             try clear hcz31_0
             try clear hcz31_1
             try clear hcz31_2
             try clear hcz31_3
             try clear hcz34_0
             try clear hcz34_1
             try clear hcz34_2
             try clear hcz34_3
             try clear hcz36_0
             try clear hcz36_1
             try clear hcz36_2
             try clear hcz36_3
             try clear hcz39_0
             try clear hcz39_1
             try clear hcz39_10
             try clear hcz39_2
             try clear hcz39_3
             try clear hcz39_4
             try clear hcz39_5
             try clear hcz39_6
             try clear hcz39_7
             try clear hcz39_8
             try clear hcz39_9
             try clear hfz11_0
             try clear hfz11_1
             try clear hfz11_10
             try clear hfz11_2
             try clear hfz11_3
             try clear hfz11_4
             try clear hfz11_5
             try clear hfz11_6
             try clear hfz11_7
             try clear hfz11_8
             try clear hfz11_9
             try clear hfz15_0
             try clear hfz15_1
             try clear hfz15_10
             try clear hfz15_2
             try clear hfz15_3
             try clear hfz15_4
             try clear hfz15_5
             try clear hfz15_6
             try clear hfz15_7
             try clear hfz15_8
             try clear hfz15_9
             try clear hfz28_0
             try clear hfz28_1
             try clear hfz28_2
             try clear hfz28_3
             try clear hfz31_0
             try clear hfz31_1
             try clear hfz31_2
             try clear hfz31_3
             try clear hfz34_0
             try clear hfz34_1
             try clear hfz34_2
             try clear hfz34_3
             try clear hfz36_0
             try clear hfz36_1
             try clear hfz36_2
             try clear hfz36_3
             try clear hfz39_0
             try clear hfz39_1
             try clear hfz39_10
             try clear hfz39_2
             try clear hfz39_3
             try clear hfz39_4
             try clear hfz39_5
             try clear hfz39_6
             try clear hfz39_7
             try clear hfz39_8
             try clear hfz39_9
             try clear hx334_0
             try clear hx334_1
             try clear hx334_2
             try clear hx334_3
             try clear hx352_0
             try clear hx352_1
             try clear hx352_2
             try clear hx352_3
             try clear hx45_0
             try clear hx45_1
             try clear hx45_2
             try clear hx45_3
             try clear hx46_2
             try clear p2
             try clear p3
             try clear p33
             try clear p334
             try clear p352
             try clear p45
             try clear p6
             try clear q3
             try clear q33
             try clear q334
             try clear q352
             try clear q45
             obtain ⟨x8_4, x63_4, rfl, HA, HK4, HO_5, HO_8, BK329, HB⟩ := hrel
             have hl8_4 := (Kd.S_reads' HO_8.out).1
             rw [hl8_4] at HO_8
             (try simp only [hl8_4])
             (try simp only [hl8_4] at BK329)
             (try simp only [hl8_4] at HO_5)
             cases gk with
             | zero => exact absurd HA.out (by simp [chicanelaw14_NamesOwn.l2])
             | succ k4 =>
              have H := HA.out
              clear HA
              simp only [chicanelaw14_NamesOwn.l2] at H
              by_cases c48 : x63_4 < (((rd_T24 y351 x50_3).f3).length : Int)
              ·rw [if_pos c48] at H
               have c48b0 : decide (x63_4 < (((rd_T24 y351 x50_3).f3).length : Int)) = true := decide_eq_true c48
               clear c48
               by_cases c49 : 0 ≤ x50_3
               ·rw [if_pos c49] at H
                have c49b0 : decide (0 ≤ x50_3) = true := decide_eq_true c49
                clear c49
                by_cases c50 : x50_3 < (x8_4.length : Int)
                ·rw [if_pos c50] at H
                 have c50b0 : decide (x50_3 < (x8_4.length : Int)) = true := decide_eq_true c50
                 clear c50
                 by_cases c51 : 0 ≤ x63_4
                 ·rw [if_pos c51] at H
                  have c51b0 : decide (0 ≤ x63_4) = true := decide_eq_true c51
                  clear c51
                  by_cases c52 : x63_4 < (((rd_T24 x8_4 x50_3).f3).length : Int)
                  ·rw [if_pos c52] at H
                   have c52b0 : decide (x63_4 < (((rd_T24 x8_4 x50_3).f3).length : Int)) = true := decide_eq_true c52
                   clear c52
                   obtain ⟨y355, hy355⟩ : ∃ y_ : List (S39), y_ = (((rd_T24 x8_4 x50_3).f3).set (x63_4 : Int).toNat (⟨(rd_T39 ((rd_T24 x8_4 x50_3).f3) x63_4).f0, (rd_T39 ((rd_T24 x8_4 x50_3).f3) x63_4).f1, (rd_T39 ((rd_T24 x8_4 x50_3).f3) x63_4).f2, (rd_T39 ((rd_T24 x8_4 x50_3).f3) x63_4).f3, wrap64 (((rd_T39 ((rd_T24 x8_4 x50_3).f3) x63_4).f4) + 1), (rd_T39 ((rd_T24 x8_4 x50_3).f3) x63_4).f5⟩ : S39)) := ⟨_, rfl⟩
                   replace H : (chicanelaw14_NamesOwn.l2 k4 l0 x5_2 (x8_4.set (x50_3 : Int).toNat (⟨(rd_T24 x8_4 x50_3).f0, (rd_T24 x8_4 x50_3).f1, (rd_T24 x8_4 x50_3).f2, y355⟩ : S24)) x50_3 (t345.length : Int) x50_3 (((rd_T24 y351 x50_3).f3).length : Int) (wrap64 (x63_4 + 1))) = some r := by first | (rw [hy355]; with_reducible exact H) | (have H2_ := (Option.bind_some _ _).symm.trans H; rw [hy355]; with_reducible exact H2_) | (have H2_ := (Option.bind_some _ _).symm.trans H; with_reducible exact H2_) | with_reducible exact H | (rw [hy355]; exact H) | exact H
                   have Ny355 := Aside0.mk hy355
                   clear hy355
                   obtain ⟨y357, hy357⟩ : ∃ y_ : List (S24), y_ = (x8_4.set (x50_3 : Int).toNat (⟨(rd_T24 x8_4 x50_3).f0, (rd_T24 x8_4 x50_3).f1, (rd_T24 x8_4 x50_3).f2, y355⟩ : S24)) := ⟨_, rfl⟩
                   replace H : (chicanelaw14_NamesOwn.l2 k4 l0 x5_2 y357 x50_3 (t345.length : Int) x50_3 (((rd_T24 y351 x50_3).f3).length : Int) (wrap64 (x63_4 + 1))) = some r := by first | (rw [hy357]; with_reducible exact H) | (have H2_ := (Option.bind_some _ _).symm.trans H; rw [hy357]; with_reducible exact H2_) | (have H2_ := (Option.bind_some _ _).symm.trans H; with_reducible exact H2_) | with_reducible exact H | (rw [hy357]; exact H) | exact H
                   have Ny357 := Aside0.mk hy357
                   clear hy357
                   have H' := Aside0.mk H
                   clear H
                   have p353 : 0 ≤ (x50_3 : Int) := of_decide_eq_true (by first | (with_reducible assumption) | assumption)
                   have q353 : x50_3 < (x8_4.length : Int) := of_decide_eq_true (by first | (with_reducible assumption) | assumption)
                   obtain ⟨ad353, A353_3, c353_3, e353, hx353_0, hx353_1, hx353_2, hx353_3, hl353_3, hi353_3⟩ := at_T24 (Kd.S_reads' HO_8.out).2.2 x50_3 p353 q353
                   obtain rfl : (⟨go45, 0, none⟩ : Addr) = ad353 := (by injection e353)
                   obtain ⟨ce353, hce353, hMe353, hcc353⟩ := Kd.S_get HO_8.out z24 x50_3 p353 (by first | exact q353 | exact of_decide_eq_true (by first | (with_reducible assumption) | assumption) | (have e_ := (Kd.S_reads' HO_8.out).1; omega))
                   obtain ⟨ve353_3, rfl, ge353_3⟩ := k24_openM hMe353
                   have hv353_3 := hcc353 3 _ rfl
                   rw [add_field _ _ 3 (by omega)] at hv353_3
                   replace hv353_3 := Option.some.inj (hv353_3.symm.trans hx353_3)
                   rw [hv353_3] at ge353_3
                   have HL353_3 := Aside0.mk (show Kd.R k39 39 _ _ _ _ ((rd_T24 x8_4 x50_3).f3) from ge353_3)
                   clear hv353_3 ge353_3
                   have HX353_3 := Aside0.mk hx353_3
                   clear hcc353 hce353
                   (first | simp only [add_plain] at hx353_0 | simp only [add_at] at hx353_0 | simp only [Addr.add, Nat.zero_add] at hx353_0 | skip)
                   (first | simp only [add_plain] at hx353_1 | simp only [add_at] at hx353_1 | simp only [Addr.add, Nat.zero_add] at hx353_1 | skip)
                   (first | simp only [add_plain] at hx353_2 | simp only [add_at] at hx353_2 | simp only [Addr.add, Nat.zero_add] at hx353_2 | skip)
                   (first | simp only [add_plain] at hx353_3 | simp only [add_at] at hx353_3 | simp only [Addr.add, Nat.zero_add] at hx353_3 | skip)
                   have HR353_3 := Aside0.mk hi353_3
                   have HC353_3 := Aside0.mk hl353_3
                   clear hi353_3 hl353_3
                   replace p353 := eq_true p353
                   replace q353 := eq_true q353
                   have p354 : 0 ≤ (x63_4 : Int) := of_decide_eq_true (by first | (with_reducible assumption) | assumption)
                   have q354 : x63_4 < (((rd_T24 x8_4 x50_3).f3).length : Int) := of_decide_eq_true (by first | (with_reducible assumption) | assumption)
                   obtain ⟨ad354, e354, hx354_0, hx354_1, hx354_2, hx354_3, hx354_4, hx354_5⟩ := at_T39 (by repeat (first | (with_reducible exact HR353_3.out) | (with_reducible refine Kd.C_alloc ?_ _) | (with_reducible refine Kd.C_drewN ?_ _) | (with_reducible refine Kd.C_drew ?_) | exact HR353_3.out)) x63_4 p354 q354
                   cases e354
                   replace p354 := eq_true p354
                   replace q354 := eq_true q354
                   have p53 : 0 ≤ (x63_4 : Int) := of_decide_eq_true (by first | (with_reducible assumption) | assumption)
                   have q53 : (x63_4 : Int) < ((((rd_T24 x8_4 x50_3).f3).length : Int) : Int) := of_decide_eq_true (by first | (with_reducible assumption) | assumption)
                   obtain ⟨go53, co53, eo53, gb53, gl53, cl53, HG53⟩ := Kd.R_form HL353_3.out (by omega)
                   (first | cases eo53 | (injection eo53 with ea_ en_ ec_; (first | subst ea_ | (injection ea_ with ea_; subst ea_)); subst ec_; clear en_))
                   have GB53 := Aside0.mk gb53
                   have GG53 := Aside0.mk HG53
                   clear gb53 gl53 HG53
                   (first | simp only [add_plain] at hx354_0 | skip)
                   (first | simp only [add_plain] at hx354_1 | skip)
                   (first | simp only [add_plain] at hx354_2 | skip)
                   (first | simp only [add_plain] at hx354_3 | skip)
                   (first | simp only [add_plain] at hx354_4 | skip)
                   (first | simp only [add_plain] at hx354_5 | skip)
                   obtain ⟨ce53, hcl53, hM53, hcc53, hfr53⟩ := Kd.R_elem HL353_3.out z39 (x63_4 : Int) p53 q53
                   obtain rfl := k39_openM hM53
                   have hx53_0 : wr.cell? ⟨go53, (x63_4 : Int).toNat * 6, none⟩ = some (.string ((rd_T39 ((rd_T24 x8_4 x50_3).f3) x63_4).f0)) := hcc53 0 _ rfl
                   have hx53_1 : wr.cell? ⟨go53, (x63_4 : Int).toNat * 6 + 1, none⟩ = some (.int .i64 ((rd_T39 ((rd_T24 x8_4 x50_3).f3) x63_4).f1)) := hcc53 1 _ rfl
                   have hx53_2 : wr.cell? ⟨go53, (x63_4 : Int).toNat * 6 + 2, none⟩ = some (.bool ((rd_T39 ((rd_T24 x8_4 x50_3).f3) x63_4).f2)) := hcc53 2 _ rfl
                   have hx53_3 : wr.cell? ⟨go53, (x63_4 : Int).toNat * 6 + 3, none⟩ = some (.int .i64 ((rd_T39 ((rd_T24 x8_4 x50_3).f3) x63_4).f3)) := hcc53 3 _ rfl
                   have hx53_4 : wr.cell? ⟨go53, (x63_4 : Int).toNat * 6 + 4, none⟩ = some (.int .i64 ((rd_T39 ((rd_T24 x8_4 x50_3).f3) x63_4).f4)) := hcc53 4 _ rfl
                   have hx53_5 : wr.cell? ⟨go53, (x63_4 : Int).toNat * 6 + 5, none⟩ = some (.int .i64 ((rd_T39 ((rd_T24 x8_4 x50_3).f3) x63_4).f5)) := hcc53 5 _ rfl
                   have hf53_0 : wr.frozen? ⟨go53, (x63_4 : Int).toNat * 6, none⟩ = false := hfr53 0
                   have hf53_1 : wr.frozen? ⟨go53, (x63_4 : Int).toNat * 6 + 1, none⟩ = false := hfr53 1
                   have hf53_2 : wr.frozen? ⟨go53, (x63_4 : Int).toNat * 6 + 2, none⟩ = false := hfr53 2
                   have hf53_3 : wr.frozen? ⟨go53, (x63_4 : Int).toNat * 6 + 3, none⟩ = false := hfr53 3
                   have hf53_4 : wr.frozen? ⟨go53, (x63_4 : Int).toNat * 6 + 4, none⟩ = false := hfr53 4
                   have hf53_5 : wr.frozen? ⟨go53, (x63_4 : Int).toNat * 6 + 5, none⟩ = false := hfr53 5
                   clear hcl53 hcc53 hfr53 hM53
                   replace p53 := eq_true p53
                   replace q53 := eq_true q53
                   have hq54 : (x50_3 : Int) < (x8_4.length : Int) := (by have h_ : (x50_3 : Int) < ((x8_4.length : Int) : Int) := of_decide_eq_true (by first | (with_reducible assumption) | assumption); first | exact h_ | (have e_ := (Kd.S_reads' HO_8.out).1; omega) | simpa only [List.length_set, List.length_set] using h_)
                   obtain ⟨oki54, ce54, hcl54, hM54, hcc54, hok54, hbk54⟩ := Kd.S_borrow HO_8.out z24 (x50_3 : Int) (of_decide_eq_true (by first | (with_reducible assumption) | assumption)) hq54
                   obtain ⟨ve54_3, rfl, ge54_3⟩ := k24_openM hM54
                   have hv54 := hcc54 3 _ rfl
                   rw [add_field _ _ 3 (by omega)] at hv54
                   replace hv54 := Option.some.inj (hv54.symm.trans HX353_3.out)
                   subst hv54
                   clear hcc54 hcl54
                   replace ge54_3 := (show Kd.R k39 39 _ _ _ _ ((rd_T24 x8_4 x50_3).f3) from ge54_3)
                   obtain ⟨cf54, hcl54, hN54, hcc54, hfr54⟩ := Kd.R_elem ge54_3 z39 (x63_4 : Int) (of_decide_eq_true (by first | (with_reducible assumption) | assumption)) (by have h_ : (x63_4 : Int) < ((((rd_T24 x8_4 x50_3).f3).length : Int) : Int) := of_decide_eq_true (by first | (with_reducible assumption) | assumption); first | exact h_ | (have e_ := (Kd.R_reads' HR353_3.out).1; omega) | simpa using h_)
                   obtain rfl := k39_openM hN54
                   have HP54 := Kd.R_seg ge54_3 (x63_4 : Int) (of_decide_eq_true (by first | (with_reducible assumption) | assumption)) (by have h_ : (x63_4 : Int) < ((((rd_T24 x8_4 x50_3).f3).length : Int) : Int) := of_decide_eq_true (by first | (with_reducible assumption) | assumption); first | exact h_ | (have e_ := (Kd.R_reads' HR353_3.out).1; omega) | simpa using h_) (seg := [.int .i64 (wrap64 (((rd_T39 ((rd_T24 x8_4 x50_3).f3) x63_4).f4) + 1))]) (j := 4) hcl54 hcc54 (show 5 ≤ 6 from by decide) (x' := (⟨(rd_T39 ((rd_T24 x8_4 x50_3).f3) x63_4).f0, (rd_T39 ((rd_T24 x8_4 x50_3).f3) x63_4).f1, (rd_T39 ((rd_T24 x8_4 x50_3).f3) x63_4).f2, (rd_T39 ((rd_T24 x8_4 x50_3).f3) x63_4).f3, wrap64 (((rd_T39 ((rd_T24 x8_4 x50_3).f3) x63_4).f4) + 1), (rd_T39 ((rd_T24 x8_4 x50_3).f3) x63_4).f5⟩ : S39)) (k39_mkM _ _ _ (⟨(rd_T39 ((rd_T24 x8_4 x50_3).f3) x63_4).f0, (rd_T39 ((rd_T24 x8_4 x50_3).f3) x63_4).f1, (rd_T39 ((rd_T24 x8_4 x50_3).f3) x63_4).f2, (rd_T39 ((rd_T24 x8_4 x50_3).f3) x63_4).f3, wrap64 (((rd_T39 ((rd_T24 x8_4 x50_3).f3) x63_4).f4) + 1), (rd_T39 ((rd_T24 x8_4 x50_3).f3) x63_4).f5⟩ : S39)) (fun _ hk => hk)
                   clear hcl54 hcc54 hfr54 hN54
                   go_wp2_with (first | ((with_reducible refine gate_store (t := 3) (p := 77) rfl ?_); refine store_event (t := 3) (p := 77) (v := ?vo_w55) (w1 := (wr.setCell ⟨go53, (x63_4 : Int).toNat * 6 + 4, none⟩ (.int .i64 (wrap64 (((rd_T39 ((rd_T24 x8_4 x50_3).f3) x63_4).f4) + 1))))) ?hg ?ho ?hn ?hr ?_; (case ho => rfl); (case hg => rfl); (case hn => rfl); (case hr => first | (go_simp; done) | (go_simp; rfl)); intro w55 hw; have hg : wr.grownBy w55 (some go53) := (by rw [hw]; exact HP54.2); have hz_ : Kd.R k39 39 w55 w.heap.size oki54 (.slice (some ⟨go53, 0, none⟩) ((rd_T24 x8_4 x50_3).f3).length c353_3) y355 := (by rw [hw, Ny355.out]; exact HP54.1); have hp_ : Kd.S k24 24 w55 w.heap.size (fun k_ => NN ≤ k_) (.slice (some ⟨go45, 0, none⟩) x8_4.length co41) y357 := (by rw [Ny357.out]; exact hbk54 hg (fun k_ e_ => by injection e_ with e_; subst e_; exact ge54_3.1 _ rfl) (k24_mkM _ _ _ (⟨(rd_T24 x8_4 x50_3).f0, (rd_T24 x8_4 x50_3).f1, (rd_T24 x8_4 x50_3).f2, y355⟩ : S24) hz_)); have hm_ := Kd.R_mono hz_ hok54; clear HP54 hbk54; have n0_ := Aside0.mk (Kd.S_grown (by (with_reducible repeat (first | apply Kd.S_alloc | apply Kd.S_drewN | apply Kd.S_drew)); exact HO_5.out) hg (fun k_ hk_ e_ => Nat.lt_irrefl _ (Nat.lt_of_lt_of_le hk_ (by injection e_ with e_; rw [e_]; exact (hok54 _ (ge54_3.1 _ rfl)).1)))); have n1_ := Aside0.mk (hp_); have n2_ := Aside0.mk (blk_grown (g := gb329) (o := .cells #[.int .i64 a1_0, .int .i64 a1_1, .string a1_2, .string a1_3, .bool a1_4, .string a1_5, .int .i64 a1_6, .bool a1_7, .int .i64 a1_8, .int .i64 a1_9, .int .i64 a1_10] 48 (0, 0)) (by (with_reducible repeat (first | refine blk_drewN ?_ _ | refine blk_drew ?_ | refine blk_alloc ?_ _)); exact BK329.out) hg (Kd.R_ne HL353_3.out BK329.out (by decide))); have n3_ := Aside0.mk ((by rw [hw]; exact below_set (HB.out) GB53.out : Below w.heap.size w w55)); have n4_ := Aside0.mk (hm_); have n5_ := Aside0.mk ((Kd.R_reads' hm_).2.1); clear HO_5; clear HO_8; clear BK329; clear HB; clear HL353_3; have HO_5 := n0_; have HO_8 := n1_; have BK329 := n2_; have HB := n3_; have HL358 := n4_; have HC356 := n5_; clear n0_ n1_ n2_ n3_ n4_ n5_; clear hg hw hp_ hz_ hm_ hok54))
                   (try simp only [← hl8_4])
                   go_roundg k4
                   case measure => have := HJ2.out; have := HK2.out; have := HK3.out; have := HK4.out; omega
                   case rel => exact ⟨(y357), (wrap64 (x63_4 + 1)), (by first | rfl | (simp; done) | (simp [*]; done)), H', ⟨by have := HJ2.out; have := HK2.out; have := HK3.out; have := HK4.out; omega⟩, ⟨by (try simp only [hl8_3]); (try simp only [hl8_4]); (with_reducible repeat (first | apply Kd.S_alloc | apply Kd.S_drewN | apply Kd.S_drew)); exact HO_5.out⟩, ⟨by (try simp only [hl8_3]); (try simp only [hl8_4]); (with_reducible repeat (first | apply Kd.S_alloc | apply Kd.S_drewN | apply Kd.S_drew)); exact HO_8.out⟩, ⟨by (try simp only [hl8_3]); (try simp only [hl8_4]); (with_reducible repeat (first | refine blk_drewN ?_ _ | refine blk_drew ?_ | refine blk_alloc ?_ _)); exact BK329.out⟩, ⟨by repeat (first | (with_reducible first | exact HB.out | apply below_alloc | apply pw_below_drewN | apply below_drew1 | refine below_set ?_ GE329.out) | exact HB.out)⟩⟩
                  ·rw [if_neg c52] at H
                   exact absurd H (by simp)
                 ·rw [if_neg c51] at H
                  exact absurd H (by simp)
                ·rw [if_neg c50] at H
                 exact absurd H (by simp)
               ·rw [if_neg c49] at H
                exact absurd H (by simp)
              ·rw [if_neg c48] at H
               have c48b0 : decide (x63_4 < (((rd_T24 y351 x50_3).f3).length : Int)) = false := decide_eq_false c48
               clear c48
               have H' := Aside0.mk H
               clear H
               go_wp2
               (try simp only [← hl8_3, ← hl8_4])
               go_roundg k4
               case measure => have := HJ2.out; have := HK2.out; have := HK3.out; have := HK4.out; omega
               case rel => exact ⟨(x8_4), (wrap64 (x50_3 + 1)), (by first | rfl | (simp; done) | (simp [*]; done)), H', ⟨by have := HJ2.out; have := HK2.out; have := HK3.out; have := HK4.out; omega⟩, ⟨by (try simp only [hl8_3]); (try simp only [hl8_4]); (with_reducible repeat (first | apply Kd.S_alloc | apply Kd.S_drewN | apply Kd.S_drew)); exact HO_5.out⟩, ⟨by (try simp only [hl8_3]); (try simp only [hl8_4]); (with_reducible repeat (first | apply Kd.S_alloc | apply Kd.S_drewN | apply Kd.S_drew)); exact HO_8.out⟩, ⟨by (try simp only [hl8_3]); (try simp only [hl8_4]); (with_reducible repeat (first | refine blk_drewN ?_ _ | refine blk_drew ?_ | refine blk_alloc ?_ _)); exact BK329.out⟩, ⟨by repeat (first | (with_reducible first | exact HB.out | apply below_alloc | apply pw_below_drewN | apply below_drew1 | refine below_set ?_ GE329.out) | exact HB.out)⟩⟩
           ·rw [if_neg c44] at H
            exact absurd H (by simp)
          ·rw [if_neg c43] at H
           exact absurd H (by simp)
         ·rw [if_neg c42] at H
          have c42b0 : decide (x50_3 < (t345.length : Int)) = false := decide_eq_false c42
          replace c42b0 : decide (x50_3 < (x8_3.length : Int)) = false := by rw [← hl8_3]; exact c42b0
          clear c42
          replace H := Option.bind_eq_some_iff.mp H
          obtain ⟨t349, A560, H⟩ := H
          replace H : (if t349 = true then ((chicaneref14_Same.f k3 l0 x5_2).bind fun t350 => (some t350)) else (some false)) = some r := H
          have A56 := Aside0.mk A560
          clear A560
          by_cases c57 : t349 = true
          ·subst c57
           have H1 : ((chicaneref14_Same.f k3 l0 x5_2).bind fun t350 => (some t350)) = some r := by rw [if_pos rfl] at H; exact H
           clear H
           have H := H1
           clear H1
           replace H := Option.bind_eq_some_iff.mp H
           obtain ⟨t350, A580, H⟩ := H
           replace H : (some t350) = some r := H
           have A58 := Aside0.mk A580
           clear A580
           obtain rfl := Option.some.inj H
           go_wp2_with (first | ((with_reducible refine gate_callee (f := 8) rfl ?_); refine goesL_ (some 80) rfl rfl Try.func8 (by kernel_rfl) rfl #[] rfl (by (try simp only [List.map_toArray, List.map_cons, List.map_nil]); first | done | rfl | (simp only [List.length_drop, List.length_take]; rfl)) ?_; (with_reducible refine (chicanelaw14_alive.calls k3  true _ A56.out).mono ?_); rintro e w59 ⟨rfl, hb⟩; refine ⟨_, rfl, ?_⟩; have n0_ := Aside0.mk (Kd.S_below (by (with_reducible repeat (first | apply Kd.S_alloc | apply Kd.S_drewN | apply Kd.S_drew)); exact HO_5.out) hb); have n1_ := Aside0.mk (Kd.S_below (by (with_reducible repeat (first | apply Kd.S_alloc | apply Kd.S_drewN | apply Kd.S_drew)); exact HO_8.out) hb); have n2_ := Aside0.mk (blk_below (g := gb329) (o := .cells #[.int .i64 a1_0, .int .i64 a1_1, .string a1_2, .string a1_3, .bool a1_4, .string a1_5, .int .i64 a1_6, .bool a1_7, .int .i64 a1_8, .int .i64 a1_9, .int .i64 a1_10] 48 (0, 0)) (by (with_reducible repeat (first | refine blk_drewN ?_ _ | refine blk_drew ?_ | refine blk_alloc ?_ _)); exact BK329.out) hb); have n3_ := Aside0.mk (below_step (by repeat (first | (with_reducible first | exact HB.out | apply below_alloc | apply pw_below_drewN | apply below_drew1 | refine below_set ?_ GE329.out) | exact HB.out)) hb); clear HO_5; clear HO_8; clear BK329; clear HB; have HO_5 := n0_; have HO_8 := n1_; have BK329 := n2_; have HB := n3_; clear n0_ n1_ n2_ n3_; (try clear hb); (try clear hb2); (try clear hk); (try clear hi); obtain ⟨Ao60, co60, eo60⟩ := Kd.S_slice HO_5.out; subst eo60) | (go_at_call 16; (with_reducible refine (chicaneref14_Same.calls k3 _ _ l0 _ _ x5_2 t350 _ ?side1 ?side2 ?side3 ?side4 A58.out).mono ?_); (case side1 => repeat (first | exact (Kd.C_below HR0.out HB.out) | (with_reducible refine Kd.C_alloc ?_ _) | (with_reducible refine Kd.C_drewN ?_ _) | (with_reducible refine Kd.C_drew ?_))); (case side2 => exact HC0.out); (case side3 => repeat (first | exact (Kd.S_reads' HO_5.out).2.2 | (with_reducible refine Kd.C_alloc ?_ _) | (with_reducible refine Kd.C_drewN ?_ _) | (with_reducible refine Kd.C_drew ?_))); (case side4 => exact (Kd.S_reads' HO_5.out).2.1); rintro e w61 ⟨rfl, hb⟩; have n0_ := Aside0.mk (Kd.S_below (by (with_reducible repeat (first | apply Kd.S_alloc | apply Kd.S_drewN | apply Kd.S_drew)); exact HO_5.out) hb); have n1_ := Aside0.mk (Kd.S_below (by (with_reducible repeat (first | apply Kd.S_alloc | apply Kd.S_drewN | apply Kd.S_drew)); exact HO_8.out) hb); have n2_ := Aside0.mk (blk_below (g := gb329) (o := .cells #[.int .i64 a1_0, .int .i64 a1_1, .string a1_2, .string a1_3, .bool a1_4, .string a1_5, .int .i64 a1_6, .bool a1_7, .int .i64 a1_8, .int .i64 a1_9, .int .i64 a1_10] 48 (0, 0)) (by (with_reducible repeat (first | refine blk_drewN ?_ _ | refine blk_drew ?_ | refine blk_alloc ?_ _)); exact BK329.out) hb); have n3_ := Aside0.mk (below_step (by repeat (first | (with_reducible first | exact HB.out | apply below_alloc | apply pw_below_drewN | apply below_drew1 | refine below_set ?_ GE329.out) | exact HB.out)) hb); clear HO_5; clear HO_8; clear BK329; clear HB; have HO_5 := n0_; have HO_8 := n1_; have BK329 := n2_; have HB := n3_; clear n0_ n1_ n2_ n3_; (try clear hb); (try clear hb2); (try clear hk); (try clear hi)))
           go_ret
           exact ⟨by first | rfl | (simp [errW_none, errW_some] <;> rfl) | (simp [*, errW_none, errW_some] <;> rfl), by repeat (first | (with_reducible first | exact HB.out | apply below_alloc | apply pw_below_drewN | apply below_drew1 | refine below_set ?_ GE329.out) | exact HB.out)⟩
          ·replace c57 := Bool.eq_false_iff.mpr c57
           subst c57
           have H1 : (some false) = some r := by rw [if_neg (show ¬ (false = true) by decide)] at H; exact H
           clear H
           have H := H1
           clear H1
           exact absurd ((Option.some.inj H).trans hr) Bool.false_ne_true
end Go.Proofs.Ytlglbpjccpdloaa.PNamA
