/- Gathered by a program of this session (shake.py): what the claim's theorem needs. -/
import Derived.Test.YtlglbpjccpdloaaGreatNs1
import Derived.Test.YtlglbpjccpdloaaGreatNs2
import Derived.Lib.Bytealg
import Derived.Shelf.Abstract
import Derived.BigQuiet
import Derived.Deep.QuietTactic
import Derived.Shelf.SlSortCmp.WholeK
import Derived.Ground.SlsfProg
import Derived.Test.YtlglbpjccpdloaaGreatProg
import Derived.Sort.Grow
set_option linter.unusedVariables false
set_option linter.unusedSimpArgs false
namespace Go.Proofs.YtlglbpjccpdloaaGreat.Ext
end Go.Proofs.YtlglbpjccpdloaaGreat.Ext
namespace Go.Proofs.YtlglbpjccpdloaaGreat.PNamA
end Go.Proofs.YtlglbpjccpdloaaGreat.PNamA
namespace Go.Proofs.YtlglbpjccpdloaaGreat.Sq
end Go.Proofs.YtlglbpjccpdloaaGreat.Sq
namespace Go.Proofs.YtlglbpjccpdloaaGreat.Tox
end Go.Proofs.YtlglbpjccpdloaaGreat.Tox
namespace Go.Proofs.YtlglbpjccpdloaaGreat.ToxZ
end Go.Proofs.YtlglbpjccpdloaaGreat.ToxZ
namespace Go.Proofs.YtlglbpjccpdloaaGreatW.PrintLast
end Go.Proofs.YtlglbpjccpdloaaGreatW.PrintLast
namespace Go.Proofs.YtlglbpjccpdloaaGreatW.PrintMore
end Go.Proofs.YtlglbpjccpdloaaGreatW.PrintMore
namespace Go.Proofs.YtlglbpjccpdloaaGreatW.PrintWords
end Go.Proofs.YtlglbpjccpdloaaGreatW.PrintWords
namespace Go.Proofs.YtlglbpjccpdloaaGreat.PNamA
open Go.Proofs.YtlglbpjccpdloaaGreat.Ext Go.Proofs.YtlglbpjccpdloaaGreat.ToxZ Go.RowKit Go.Proofs.YtlglbpjccpdloaaGreatW.PrintWords Go.Proofs.YtlglbpjccpdloaaGreatW.PrintLast Go.Proofs.YtlglbpjccpdloaaGreatW.PrintMore Go.Proofs.YtlglbpjccpdloaaGreat.Sq
attribute [local go_sem] max2_int min2_int max_two min_two max_three min_three max_four min_four   -- for this text's walks alone
set_option linter.unusedVariables false
set_option linter.unusedSimpArgs false
def names_Right.l0 : Nat → List (S39) → List (S39) → Int → Int → Option (Bool)
 | 0, _, _, _, _ => none
 | k + 1, x0, x5, x6, x7 => if x7 < x6 then (if 0 ≤ x7 then (if x7 < (x5.length : Int) then ((names_Check.f k ((rd_T39 x5 x7).f0) ((rd_T39 x5 x7).f1) ((rd_T39 x5 x7).f2) ((rd_T39 x5 x7).f3)).bind fun t118 => (if t118 = 0 then (if x7 > 0 then (if 0 ≤ (wrap64 (x7 - 1)) then (if (wrap64 (x7 - 1)) < (x0.length : Int) then (if ((Op.bytesLess (((rd_T39 x0 (wrap64 (x7 - 1))).f0).toList) (((rd_T39 x5 x7).f0).toList)) = true) then (names_Right.l0 k x0 x5 x6 (wrap64 (x7 + 1))) else (some false)) else (none)) else (none)) else (names_Right.l0 k x0 x5 x6 (wrap64 (x7 + 1)))) else (some false))) else (none)) else (none)) else (some (decide ((x0.length : Int) ≤ 8)))
def names_Right.f (k : Nat) (l0 : List (S39)) : Option (Bool) := names_Right.l0 k l0 l0 (l0.length : Int) 0
theorem names_Right.mono_l : ∀ k, (∀ y0 y1 y2 y3, LeO (names_Right.l0 k y0 y1 y2 y3) (names_Right.l0 (k + 1) y0 y1 y2 y3))
 | 0 => fun _ _ _ _ r h => by simp [names_Right.l0] at h
 | k + 1 => by
  have ih0 := names_Right.mono_l k
  ·intro y0 y1 y2 y3
   unfold names_Right.l0
   repeat' first
   | (with_reducible exact ih0 _ _ _ _)
   | (with_reducible exact names_Check.mono _ _ _ _ _)
   | (with_reducible exact LeO.refl _)
   | (with_reducible exact LeO.none _)
   | (with_reducible refine LeO.ite ?_ ?_)
   | (with_reducible refine LeO.bind ?_ (fun _ => ?_))
   | exact ih0 _ _ _ _
   | exact names_Check.mono _ _ _ _ _
   | exact LeO.none _
   | refine LeO.ite ?_ ?_
   | refine LeO.bind ?_ (fun _ => ?_)
theorem names_Right.mono : ∀ a0 k, LeO (names_Right.f k a0) (names_Right.f (k + 1) a0) := by
 intro a0 k
 have ih0 := names_Right.mono_l k
 unfold names_Right.f
 repeat' first
   | (with_reducible exact ih0 _ _ _ _)
   | (with_reducible exact names_Check.mono _ _ _ _ _)
   | (with_reducible exact LeO.refl _)
   | (with_reducible exact LeO.none _)
   | (with_reducible refine LeO.ite ?_ ?_)
   | (with_reducible refine LeO.bind ?_ (fun _ => ?_))
   | exact ih0 _ _ _ _
   | exact names_Check.mono _ _ _ _ _
   | exact LeO.none _
   | refine LeO.ite ?_ ?_
   | refine LeO.bind ?_ (fun _ => ?_)
def names_Right.T4 : Bool × List (List Nat × List Nat) := (true, [([], []), ([0], [0]), ([1], [1]), ([2, 1], [2]), ([3], [3]), ([4, 3], [3, 4]), ([5, 3, 3], [3, 5]), ([6], [6]), ([6], [6]), ([8, 6], [6, 8]), ([7, 9, 6], [6, 7, 9]), ([10, 6], [6, 10]), ([11, 6], [6, 11]), ([6], [6]), ([13, 6], [6, 13]), ([12, 14, 6], [6, 12, 14]), ([6, 15, 3], [3, 6, 15]), ([3, 16], [3, 16])])
def names_Right.B4 : List Nat := [0, 1, 3, 7, 15, 31, 63, 127, 127, 383, 1023, 2047, 4095, 127, 8319, 32767, 65535, 131071]
theorem names_Right.tab4 : rtab .any (opsOf Tryz.f13 4) = names_Right.T4 := by kernel_rfl
theorem names_Right.bits4 : waitsOk names_Right.T4.2 names_Right.B4 = true := by kernel_rfl
set_option maxHeartbeats 8000000 in
set_option maxRecDepth 100000 in
theorem names_Right.calls (k : Nat) (A0 : Option Addr) (c0 : Nat) (l0 : List (S39)) (r : Bool) (w : World) (hr0 : Kd.C k39 w A0 l0.length l0) (hc0 : l0.length ≤ c0) (h : names_Right.f k l0 = some r) :
  Calls Tryz.prog 13 #[.slice A0 l0.length c0] w fun e w' => e = .returned (.bool r) ∧ Below w.heap.size w w' := by
 have hu39 := Tryz.underlying39
 have HR0 := Aside0.mk hr0
 have HC0 := Aside0.mk hc0
 clear hr0 hc0
 have HB := Aside0.mk (Below.refl w.heap.size w)
 have H : (names_Right.l0 k l0 l0 (l0.length : Int) 0) = some r := h
 clear h
 have H' := Aside0.mk H
 clear H
 go_enter Tryz.func13, Tryz.ntmps13
 go_wp2
 go_loopg [7] k (fun kq v7 w' => ∃ (x7_1 : Int), v7 = .int .i64 x7_1 ∧ Aside0 (names_Right.l0 kq l0 l0 (l0.length : Int) x7_1 = some r) ∧ Aside0 (kq ≤ k) ∧ Aside0 (Below w.heap.size w w'))
 case atStart => exact ⟨(0), qE1, H', ⟨Nat.le_refl _⟩, ⟨by repeat (first | (with_reducible first | exact HB.out | apply below_alloc | apply pw_below_drewN | apply below_drew1) | exact HB.out)⟩⟩
 case round =>
  clear H'
  try clear c1
  obtain ⟨x7_1, rfl, HA, HK1, HB⟩ := hrel
  cases gk with
  | zero => exact absurd HA.out (by simp [names_Right.l0])
  | succ k1 =>
   have H := HA.out
   clear HA
   simp only [names_Right.l0] at H
   by_cases c2 : x7_1 < (l0.length : Int)
   ·rw [if_pos c2] at H
    have c2b0 : decide (x7_1 < (l0.length : Int)) = true := decide_eq_true c2
    clear c2
    by_cases c3 : 0 ≤ x7_1
    ·rw [if_pos c3] at H
     have c3b0 : decide (0 ≤ x7_1) = true := decide_eq_true c3
     clear c3
     by_cases c4 : x7_1 < (l0.length : Int)
     ·rw [if_pos c4] at H
      have c4b0 : decide (x7_1 < (l0.length : Int)) = true := decide_eq_true c4
      clear c4
      replace H := Option.bind_eq_some_iff.mp H
      obtain ⟨t118, A50, H⟩ := H
      replace H : (if t118 = 0 then (if x7_1 > 0 then (if 0 ≤ (wrap64 (x7_1 - 1)) then (if (wrap64 (x7_1 - 1)) < (l0.length : Int) then (if ((Op.bytesLess (((rd_T39 l0 (wrap64 (x7_1 - 1))).f0).toList) (((rd_T39 l0 x7_1).f0).toList)) = true) then (names_Right.l0 k1 l0 l0 (l0.length : Int) (wrap64 (x7_1 + 1))) else (some false)) else (none)) else (none)) else (names_Right.l0 k1 l0 l0 (l0.length : Int) (wrap64 (x7_1 + 1)))) else (some false)) = some r := H
      have A5 := Aside0.mk A50
      clear A50
      by_cases c6 : t118 = 0
      ·rw [if_pos c6] at H
       have c6b0 : (t118 == 0) = true := beq_iff_eq.mpr c6
       have c6b1 : (t118 != 0) = false := bne_eq_false_iff_eq.mpr c6
       clear c6
       by_cases c7 : x7_1 > 0
       ·rw [if_pos c7] at H
        have c7b0 : decide (0 < x7_1) = true := decide_eq_true c7
        clear c7
        obtain ⟨ji8, hji8⟩ : ∃ j_ : Int, (wrap64 (x7_1 - 1)) = j_ := ⟨_, rfl⟩
        replace H : (if 0 ≤ (ji8) then (if (ji8) < (l0.length : Int) then (if ((Op.bytesLess (((rd_T39 l0 (ji8)).f0).toList) (((rd_T39 l0 x7_1).f0).toList)) = true) then (names_Right.l0 k1 l0 l0 (l0.length : Int) (wrap64 (x7_1 + 1))) else (some false)) else (none)) else (none)) = some r := by first | (rw [hji8] at H; exact H) | (simp only [hji8] at H ⊢; exact H)
        (try rw [hji8] at A5)
        have hji8w : (IntKind.i64.wrap (x7_1 - 1)) = ji8 := (i64_w _).trans hji8
        by_cases c9 : 0 ≤ (ji8)
        ·rw [if_pos c9] at H
         have c9b0 : decide (0 ≤ (ji8)) = true := decide_eq_true c9
         clear c9
         by_cases c10 : (ji8) < (l0.length : Int)
         ·rw [if_pos c10] at H
          have c10b0 : decide ((ji8) < (l0.length : Int)) = true := decide_eq_true c10
          clear c10
          by_cases c11 : ((Op.bytesLess (((rd_T39 l0 (ji8)).f0).toList) (((rd_T39 l0 x7_1).f0).toList)) = true)
          ·rw [if_pos c11] at H
           have c11b0 : (Op.bytesLess (((rd_T39 l0 (ji8)).f0).toList) (((rd_T39 l0 x7_1).f0).toList)) = true := c11
           clear c11
           have H' := Aside0.mk H
           clear H
           have p116 : 0 ≤ (x7_1 : Int) := of_decide_eq_true qA
           have q116 : x7_1 < (l0.length : Int) := of_decide_eq_true qA
           obtain ⟨ad116, A116_3, c116_3, e116, hx116_0, hx116_1, hx116_2, hx116_3, hl116_3, hi116_3⟩ := at_T39 HR0.out x7_1 p116 q116
           cases e116
           replace hx116_0 := (HB.out.cell (World.block_lt_of_cell? w _ hx116_0)).trans hx116_0
           replace hx116_1 := (HB.out.cell (World.block_lt_of_cell? w _ hx116_1)).trans hx116_1
           replace hx116_2 := (HB.out.cell (World.block_lt_of_cell? w _ hx116_2)).trans hx116_2
           replace hx116_3 := (HB.out.cell (World.block_lt_of_cell? w _ hx116_3)).trans hx116_3
           have HR116_3 := Aside0.mk hi116_3
           have HC116_3 := Aside0.mk hl116_3
           clear hi116_3 hl116_3
           replace p116 := eq_true p116
           replace q116 := eq_true q116
           try go_wp2_with (first | ((with_reducible refine gate_dst (N := 4) rfl ?_); refine box_event ?hg (N := 4) ?hd (cs := #[.string (⟨#[]⟩ : ByteArray), .bool false, .int .i64 0, .slice none 0 0]) (t := 39) ?hr ?_; (case hd => rfl); (case hg => rfl); (case hr => first | (go_simp; done) | (go_simp; rfl)); intro gb117 hg w12 hbox hb; have n0_ := Aside0.mk (below_step (qB HB.out) hb); have n1_ := Aside0.mk (hbox); have n2_ := Aside0.mk ((qs hg (below_size (qB HB.out)) : w.heap.size ≤ gb117)); have n3_ := Aside0.mk ((qs hg (below_size (qB HB.out)) : w.heap.size ≤ gb117)); clear HB; have HB := n0_; have BK117 := n1_; have GW117 := n2_; have GE117 := n3_; clear n0_ n1_ n2_ n3_ hb hbox hg; have hcz13 := qC4 BK117.out))
           have n0_ : Aside0 (((((w12.setCell ⟨gb117, 0, none⟩ (.string ((rd_T39 l0 x7_1).f0))).setCell ⟨gb117, 1, none⟩ (.bool ((rd_T39 l0 x7_1).f1))).setCell ⟨gb117, 2, none⟩ (.int .i64 ((rd_T39 l0 x7_1).f2))).setCell ⟨gb117, 3, none⟩ (.slice A116_3 ((rd_T39 l0 x7_1).f3).length c116_3)).heap[gb117]? = some (.cells #[.string ((rd_T39 l0 x7_1).f0), .bool ((rd_T39 l0 x7_1).f1), .int .i64 ((rd_T39 l0 x7_1).f2), .slice A116_3 ((rd_T39 l0 x7_1).f3).length c116_3] 39 (0, 0))) := ⟨by (with_reducible repeat (first | refine blk_drewN ?_ _ | refine blk_drew ?_ | refine blk_alloc ?_ _)); refine blk_put (cs := #[.string ((rd_T39 l0 x7_1).f0), .bool ((rd_T39 l0 x7_1).f1), .int .i64 ((rd_T39 l0 x7_1).f2), .slice none 0 0]) ?_ 3 _ rfl; (with_reducible repeat (first | refine blk_drewN ?_ _ | refine blk_drew ?_ | refine blk_alloc ?_ _)); refine blk_put (cs := #[.string ((rd_T39 l0 x7_1).f0), .bool ((rd_T39 l0 x7_1).f1), .int .i64 0, .slice none 0 0]) ?_ 2 _ rfl; (with_reducible repeat (first | refine blk_drewN ?_ _ | refine blk_drew ?_ | refine blk_alloc ?_ _)); refine blk_put (cs := #[.string ((rd_T39 l0 x7_1).f0), .bool false, .int .i64 0, .slice none 0 0]) ?_ 1 _ rfl; (with_reducible repeat (first | refine blk_drewN ?_ _ | refine blk_drew ?_ | refine blk_alloc ?_ _)); refine blk_put (cs := #[.string (⟨#[]⟩ : ByteArray), .bool false, .int .i64 0, .slice none 0 0]) ?_ 0 _ rfl; (with_reducible repeat (first | refine blk_drewN ?_ _ | refine blk_drew ?_ | refine blk_alloc ?_ _)); exact BK117.out⟩
           have n1_ : Aside0 (Below w.heap.size w ((((w12.setCell ⟨gb117, 0, none⟩ (.string ((rd_T39 l0 x7_1).f0))).setCell ⟨gb117, 1, none⟩ (.bool ((rd_T39 l0 x7_1).f1))).setCell ⟨gb117, 2, none⟩ (.int .i64 ((rd_T39 l0 x7_1).f2))).setCell ⟨gb117, 3, none⟩ (.slice A116_3 ((rd_T39 l0 x7_1).f3).length c116_3))) := ⟨by repeat (first | (with_reducible first | exact HB.out | apply below_alloc | apply pw_below_drewN | apply below_drew1 | refine below_set ?_ GE117.out) | exact HB.out)⟩
           (try clear BK117)
           (try clear HB)
           generalize ((((w12.setCell ⟨gb117, 0, none⟩ (.string ((rd_T39 l0 x7_1).f0))).setCell ⟨gb117, 1, none⟩ (.bool ((rd_T39 l0 x7_1).f1))).setCell ⟨gb117, 2, none⟩ (.int .i64 ((rd_T39 l0 x7_1).f2))).setCell ⟨gb117, 3, none⟩ (.slice A116_3 ((rd_T39 l0 x7_1).f3).length c116_3)) = w14 at n0_ n1_ ⊢
           have BK117 := n0_
           have HB := n1_
           clear n0_ n1_
           replace BK117 := Aside0.mk (blk_drew BK117.out)
           replace HB := Aside0.mk (below_drew1 HB.out)
           have p119 : 0 ≤ ((ji8) : Int) := of_decide_eq_true qA
           have q119 : (ji8) < (l0.length : Int) := of_decide_eq_true qA
           obtain ⟨ad119, A119_3, c119_3, e119, hx119_0, hx119_1, hx119_2, hx119_3, hl119_3, hi119_3⟩ := at_T39 HR0.out (ji8) p119 q119
           have hw119_3 := hx119_3
           have hw119_2 := hx119_2
           have hw119_1 := hx119_1
           have hw119_0 := hx119_0
           obtain rfl : ad116 = ad119 := (by injection e119)
           replace hx119_0 := (HB.out.cell (World.block_lt_of_cell? w _ hx119_0)).trans hx119_0
           replace hx119_1 := (HB.out.cell (World.block_lt_of_cell? w _ hx119_1)).trans hx119_1
           replace hx119_2 := (HB.out.cell (World.block_lt_of_cell? w _ hx119_2)).trans hx119_2
           replace hx119_3 := (HB.out.cell (World.block_lt_of_cell? w _ hx119_3)).trans hx119_3
           have HR119_3 := Aside0.mk hi119_3
           have HC119_3 := Aside0.mk hl119_3
           clear hi119_3 hl119_3
           replace p119 := eq_true p119
           replace q119 := eq_true q119
           refine start_ (n := 18) (S := fun w' => w'.cell? ⟨gb117, 0, none⟩ = some (.string ((rd_T39 l0 x7_1).f0)) ∧ w'.cell? ⟨gb117, 1, none⟩ = some (.bool ((rd_T39 l0 x7_1).f1)) ∧ w'.cell? ⟨gb117, 2, none⟩ = some (.int .i64 ((rd_T39 l0 x7_1).f2)) ∧ w'.cell? ⟨gb117, 3, none⟩ = some (.slice A116_3 ((rd_T39 l0 x7_1).f3).length c116_3) ∧ w'.cell? (ad116.add (((ji8)).toNat * 4)) = some (.string ((rd_T39 l0 (ji8)).f0)) ∧ w'.cell? ⟨(ad116.add (((ji8)).toNat * 4)).block, (ad116.add (((ji8)).toNat * 4)).off + 1, none⟩ = some (.bool ((rd_T39 l0 (ji8)).f1)) ∧ w'.cell? ⟨(ad116.add (((ji8)).toNat * 4)).block, (ad116.add (((ji8)).toNat * 4)).off + 2, none⟩ = some (.int .i64 ((rd_T39 l0 (ji8)).f2)) ∧ w'.cell? ⟨(ad116.add (((ji8)).toNat * 4)).block, (ad116.add (((ji8)).toNat * 4)).off + 3, none⟩ = some (.slice A119_3 ((rd_T39 l0 (ji8)).f3).length c119_3)) (ds := []) #[false, false, false, false, false, false, false, false, false, false, false, false, false, false, false, false, false, false] qr rfl rfl ⟨(blk_cell BK117.out 0).trans rfl, (blk_cell BK117.out 1).trans rfl, (blk_cell BK117.out 2).trans rfl, (blk_cell BK117.out 3).trans rfl, ((HB.out.cell (World.block_lt_of_cell? w _ hw119_0)).trans hw119_0), ((HB.out.cell (World.block_lt_of_cell? w _ hw119_1)).trans hw119_1), ((HB.out.cell (World.block_lt_of_cell? w _ hw119_2)).trans hw119_2), ((HB.out.cell (World.block_lt_of_cell? w _ hw119_3)).trans hw119_3)⟩ (fun hHeld => ?_); refine with_tabW names_Right.tab4 names_Right.bits4 (fun HT_ HW_ => ?_)
           generalize w14.drew = w15 at BK117 HB HR119_3 hx119_0 hx119_1 hx119_2 hx119_3 hHeld ⊢
           refine take_ (i := 0) (N := some 12) (v := ?_) (a' := ?_) #[true, false, false, false, false, false, false, false, false, false, false, false, false, false, false, false, false, false] rfl rfl (take_ofW HT_.out HW_.out qr) (fun _ _ _ h => h) (Or.inl ⟨by rfl, ?_⟩) hHeld ?_ ?_
           rotate_left
           ·rintro w' ⟨s0, s1, s2, s3, s4, s5, s6, s7⟩
            go_simp
            with_reducible rfl
           rotate_left
           ·simp only [Act.put, List.setIfInBounds_toArray, List.set_cons_zero, List.set_cons_succ, i64_w, i32_w]
            rfl
           refine qO (i := 1) (N := some 13) HT_.out (fun K hK => ?_)
           refine goes_ Tryz.func28 qr rfl #[.agg #[.string ((rd_T39 l0 x7_1).f0), .bool ((rd_T39 l0 x7_1).f1), .int .i64 ((rd_T39 l0 x7_1).f2), .slice A116_3 ((rd_T39 l0 x7_1).f3).length c116_3]] (by rfl) rfl rfl qG ?_
           with_reducible refine (names_Check.calls k1 ((rd_T39 l0 x7_1).f0) ((rd_T39 l0 x7_1).f1) ((rd_T39 l0 x7_1).f2) _ _ ((rd_T39 l0 x7_1).f3) t118 _ ?side1 ?side2 A5.out).mono ?_
           (case side1 => repeat (first | exact (Kd.C_below HR116_3.out HB.out) | (with_reducible refine Kd.C_alloc ?_ _) | (with_reducible refine Kd.C_drewN ?_ _) | (with_reducible refine Kd.C_drew ?_)))
           (case side2 => exact HC116_3.out)
           rintro e w16 ⟨rfl, hb⟩
           refine ⟨_, rfl, ?_⟩
           replace BK117 := Aside0.mk (blk_below (qK BK117.out) hb)
           replace HB := Aside0.mk (below_step (qB1 HB.out GE117.out) hb)
           (try clear hb)
           (try clear hb2)
           (try clear hk)
           (try clear hi)
           refine hK.out _ _ ⟨(blk_cell BK117.out 0).trans rfl, (blk_cell BK117.out 1).trans rfl, (blk_cell BK117.out 2).trans rfl, (blk_cell BK117.out 3).trans rfl, ((HB.out.cell (World.block_lt_of_cell? w _ hw119_0)).trans hw119_0), ((HB.out.cell (World.block_lt_of_cell? w _ hw119_1)).trans hw119_1), ((HB.out.cell (World.block_lt_of_cell? w _ hw119_2)).trans hw119_2), ((HB.out.cell (World.block_lt_of_cell? w _ hw119_3)).trans hw119_3)⟩ (fun hHeld => ?_)
           clear hK K
           refine qM (N := some 13) ?_
           refine qP (i := 2) (N := some 14) HT_.out ?_
           refine qP (i := 3) (N := some 15) HT_.out ?_
           refine qP (i := 4) (N := some 16) HT_.out ?_
           refine qP (i := 5) (N := some 17) HT_.out ?_
           refine qP (i := 6) (N := some 18) HT_.out ?_
           refine qP (i := 7) (N := some 19) HT_.out ?_
           refine qP (i := 8) (N := some 20) HT_.out ?_
           refine qP (i := 9) (N := some 21) HT_.out ?_
           refine qP (i := 10) (N := some 22) HT_.out ?_
           refine qP (i := 11) (N := some 23) HT_.out ?_
           refine qP (i := 13) (N := some 25) HT_.out ?_
           refine take_ (i := 12) (N := some 24) (v := ?_) (a' := ?_) #[true, true, true, true, true, true, true, true, true, true, true, true, true, true, false, false, false, false] rfl rfl (take_ofW HT_.out HW_.out qr) (fun _ _ _ h => h) (Or.inl ⟨by rfl, ?_⟩) hHeld ?_ ?_
           rotate_left
           ·rintro w' ⟨s0, s1, s2, s3, s4, s5, s6, s7⟩
            go_simp
            with_reducible rfl
           rotate_left
           ·simp only [Act.put, List.setIfInBounds_toArray, List.set_cons_zero, List.set_cons_succ, i64_w, i32_w]
            rfl
           refine take_ (i := 14) (N := some 26) (v := ?_) (a' := ?_) #[true, true, true, true, true, true, true, true, true, true, true, true, true, true, true, false, false, false] rfl rfl (take_ofW HT_.out HW_.out qr) (fun _ _ _ h => h) (Or.inl ⟨by rfl, ?_⟩) hHeld ?_ ?_
           rotate_left
           ·rintro w' ⟨s0, s1, s2, s3, s4, s5, s6, s7⟩
            go_simp
            with_reducible rfl
           rotate_left
           ·simp only [Act.put, List.setIfInBounds_toArray, List.set_cons_zero, List.set_cons_succ, i64_w, i32_w]
            rfl
           refine qP (i := 15) (N := some 27) HT_.out ?_
           refine qP (i := 16) (N := some 28) HT_.out ?_
           refine qP (i := 17) (N := some 29) HT_.out ?_
           refine done_ (done_of HT_.out qr) ?_
           try go_wp2
           go_roundg k1
           case measure => have := HK1.out; omega
           case rel => exact ⟨(wrap64 (x7_1 + 1)), qE1, H', ⟨by have := HK1.out; omega⟩, ⟨by repeat (first | (with_reducible first | exact HB.out | apply below_alloc | apply pw_below_drewN | apply below_drew1 | refine below_set ?_ GE117.out) | exact HB.out)⟩⟩
          ·rw [if_neg c11] at H
           have c11b0 : (Op.bytesLess (((rd_T39 l0 (ji8)).f0).toList) (((rd_T39 l0 x7_1).f0).toList)) = false := by simpa using c11
           clear c11
           obtain rfl := Option.some.inj H
           have p116 : 0 ≤ (x7_1 : Int) := of_decide_eq_true qA
           have q116 : x7_1 < (l0.length : Int) := of_decide_eq_true qA
           obtain ⟨ad116, A116_3, c116_3, e116, hx116_0, hx116_1, hx116_2, hx116_3, hl116_3, hi116_3⟩ := at_T39 HR0.out x7_1 p116 q116
           cases e116
           replace hx116_0 := (HB.out.cell (World.block_lt_of_cell? w _ hx116_0)).trans hx116_0
           replace hx116_1 := (HB.out.cell (World.block_lt_of_cell? w _ hx116_1)).trans hx116_1
           replace hx116_2 := (HB.out.cell (World.block_lt_of_cell? w _ hx116_2)).trans hx116_2
           replace hx116_3 := (HB.out.cell (World.block_lt_of_cell? w _ hx116_3)).trans hx116_3
           have HR116_3 := Aside0.mk hi116_3
           have HC116_3 := Aside0.mk hl116_3
           clear hi116_3 hl116_3
           replace p116 := eq_true p116
           replace q116 := eq_true q116
           try go_wp2_with (first | ((with_reducible refine gate_dst (N := 4) rfl ?_); refine box_event ?hg (N := 4) ?hd (cs := #[.string (⟨#[]⟩ : ByteArray), .bool false, .int .i64 0, .slice none 0 0]) (t := 39) ?hr ?_; (case hd => rfl); (case hg => rfl); (case hr => first | (go_simp; done) | (go_simp; rfl)); intro gb117 hg w17 hbox hb; have n0_ := Aside0.mk (below_step (qB HB.out) hb); have n1_ := Aside0.mk (hbox); have n2_ := Aside0.mk ((qs hg (below_size (qB HB.out)) : w.heap.size ≤ gb117)); have n3_ := Aside0.mk ((qs hg (below_size (qB HB.out)) : w.heap.size ≤ gb117)); clear HB; have HB := n0_; have BK117 := n1_; have GW117 := n2_; have GE117 := n3_; clear n0_ n1_ n2_ n3_ hb hbox hg; have hcz18 := qC4 BK117.out))
           have n0_ : Aside0 (((((w17.setCell ⟨gb117, 0, none⟩ (.string ((rd_T39 l0 x7_1).f0))).setCell ⟨gb117, 1, none⟩ (.bool ((rd_T39 l0 x7_1).f1))).setCell ⟨gb117, 2, none⟩ (.int .i64 ((rd_T39 l0 x7_1).f2))).setCell ⟨gb117, 3, none⟩ (.slice A116_3 ((rd_T39 l0 x7_1).f3).length c116_3)).heap[gb117]? = some (.cells #[.string ((rd_T39 l0 x7_1).f0), .bool ((rd_T39 l0 x7_1).f1), .int .i64 ((rd_T39 l0 x7_1).f2), .slice A116_3 ((rd_T39 l0 x7_1).f3).length c116_3] 39 (0, 0))) := ⟨by (with_reducible repeat (first | refine blk_drewN ?_ _ | refine blk_drew ?_ | refine blk_alloc ?_ _)); refine blk_put (cs := #[.string ((rd_T39 l0 x7_1).f0), .bool ((rd_T39 l0 x7_1).f1), .int .i64 ((rd_T39 l0 x7_1).f2), .slice none 0 0]) ?_ 3 _ rfl; (with_reducible repeat (first | refine blk_drewN ?_ _ | refine blk_drew ?_ | refine blk_alloc ?_ _)); refine blk_put (cs := #[.string ((rd_T39 l0 x7_1).f0), .bool ((rd_T39 l0 x7_1).f1), .int .i64 0, .slice none 0 0]) ?_ 2 _ rfl; (with_reducible repeat (first | refine blk_drewN ?_ _ | refine blk_drew ?_ | refine blk_alloc ?_ _)); refine blk_put (cs := #[.string ((rd_T39 l0 x7_1).f0), .bool false, .int .i64 0, .slice none 0 0]) ?_ 1 _ rfl; (with_reducible repeat (first | refine blk_drewN ?_ _ | refine blk_drew ?_ | refine blk_alloc ?_ _)); refine blk_put (cs := #[.string (⟨#[]⟩ : ByteArray), .bool false, .int .i64 0, .slice none 0 0]) ?_ 0 _ rfl; (with_reducible repeat (first | refine blk_drewN ?_ _ | refine blk_drew ?_ | refine blk_alloc ?_ _)); exact BK117.out⟩
           have n1_ : Aside0 (Below w.heap.size w ((((w17.setCell ⟨gb117, 0, none⟩ (.string ((rd_T39 l0 x7_1).f0))).setCell ⟨gb117, 1, none⟩ (.bool ((rd_T39 l0 x7_1).f1))).setCell ⟨gb117, 2, none⟩ (.int .i64 ((rd_T39 l0 x7_1).f2))).setCell ⟨gb117, 3, none⟩ (.slice A116_3 ((rd_T39 l0 x7_1).f3).length c116_3))) := ⟨by repeat (first | (with_reducible first | exact HB.out | apply below_alloc | apply pw_below_drewN | apply below_drew1 | refine below_set ?_ GE117.out) | exact HB.out)⟩
           (try clear BK117)
           (try clear HB)
           generalize ((((w17.setCell ⟨gb117, 0, none⟩ (.string ((rd_T39 l0 x7_1).f0))).setCell ⟨gb117, 1, none⟩ (.bool ((rd_T39 l0 x7_1).f1))).setCell ⟨gb117, 2, none⟩ (.int .i64 ((rd_T39 l0 x7_1).f2))).setCell ⟨gb117, 3, none⟩ (.slice A116_3 ((rd_T39 l0 x7_1).f3).length c116_3)) = w19 at n0_ n1_ ⊢
           have BK117 := n0_
           have HB := n1_
           clear n0_ n1_
           replace BK117 := Aside0.mk (blk_drew BK117.out)
           replace HB := Aside0.mk (below_drew1 HB.out)
           have p119 : 0 ≤ ((ji8) : Int) := of_decide_eq_true qA
           have q119 : (ji8) < (l0.length : Int) := of_decide_eq_true qA
           obtain ⟨ad119, A119_3, c119_3, e119, hx119_0, hx119_1, hx119_2, hx119_3, hl119_3, hi119_3⟩ := at_T39 HR0.out (ji8) p119 q119
           have hw119_3 := hx119_3
           have hw119_2 := hx119_2
           have hw119_1 := hx119_1
           have hw119_0 := hx119_0
           obtain rfl : ad116 = ad119 := (by injection e119)
           replace hx119_0 := (HB.out.cell (World.block_lt_of_cell? w _ hx119_0)).trans hx119_0
           replace hx119_1 := (HB.out.cell (World.block_lt_of_cell? w _ hx119_1)).trans hx119_1
           replace hx119_2 := (HB.out.cell (World.block_lt_of_cell? w _ hx119_2)).trans hx119_2
           replace hx119_3 := (HB.out.cell (World.block_lt_of_cell? w _ hx119_3)).trans hx119_3
           have HR119_3 := Aside0.mk hi119_3
           have HC119_3 := Aside0.mk hl119_3
           clear hi119_3 hl119_3
           replace p119 := eq_true p119
           replace q119 := eq_true q119
           refine start_ (n := 18) (S := fun w' => w'.cell? ⟨gb117, 0, none⟩ = some (.string ((rd_T39 l0 x7_1).f0)) ∧ w'.cell? ⟨gb117, 1, none⟩ = some (.bool ((rd_T39 l0 x7_1).f1)) ∧ w'.cell? ⟨gb117, 2, none⟩ = some (.int .i64 ((rd_T39 l0 x7_1).f2)) ∧ w'.cell? ⟨gb117, 3, none⟩ = some (.slice A116_3 ((rd_T39 l0 x7_1).f3).length c116_3) ∧ w'.cell? (ad116.add (((ji8)).toNat * 4)) = some (.string ((rd_T39 l0 (ji8)).f0)) ∧ w'.cell? ⟨(ad116.add (((ji8)).toNat * 4)).block, (ad116.add (((ji8)).toNat * 4)).off + 1, none⟩ = some (.bool ((rd_T39 l0 (ji8)).f1)) ∧ w'.cell? ⟨(ad116.add (((ji8)).toNat * 4)).block, (ad116.add (((ji8)).toNat * 4)).off + 2, none⟩ = some (.int .i64 ((rd_T39 l0 (ji8)).f2)) ∧ w'.cell? ⟨(ad116.add (((ji8)).toNat * 4)).block, (ad116.add (((ji8)).toNat * 4)).off + 3, none⟩ = some (.slice A119_3 ((rd_T39 l0 (ji8)).f3).length c119_3)) (ds := []) #[false, false, false, false, false, false, false, false, false, false, false, false, false, false, false, false, false, false] qr rfl rfl ⟨(blk_cell BK117.out 0).trans rfl, (blk_cell BK117.out 1).trans rfl, (blk_cell BK117.out 2).trans rfl, (blk_cell BK117.out 3).trans rfl, ((HB.out.cell (World.block_lt_of_cell? w _ hw119_0)).trans hw119_0), ((HB.out.cell (World.block_lt_of_cell? w _ hw119_1)).trans hw119_1), ((HB.out.cell (World.block_lt_of_cell? w _ hw119_2)).trans hw119_2), ((HB.out.cell (World.block_lt_of_cell? w _ hw119_3)).trans hw119_3)⟩ (fun hHeld => ?_); refine with_tabW names_Right.tab4 names_Right.bits4 (fun HT_ HW_ => ?_)
           generalize w19.drew = w20 at BK117 HB HR119_3 hx119_0 hx119_1 hx119_2 hx119_3 hHeld ⊢
           refine take_ (i := 0) (N := some 12) (v := ?_) (a' := ?_) #[true, false, false, false, false, false, false, false, false, false, false, false, false, false, false, false, false, false] rfl rfl (take_ofW HT_.out HW_.out qr) (fun _ _ _ h => h) (Or.inl ⟨by rfl, ?_⟩) hHeld ?_ ?_
           rotate_left
           ·rintro w' ⟨s0, s1, s2, s3, s4, s5, s6, s7⟩
            go_simp
            with_reducible rfl
           rotate_left
           ·simp only [Act.put, List.setIfInBounds_toArray, List.set_cons_zero, List.set_cons_succ, i64_w, i32_w]
            rfl
           refine qO (i := 1) (N := some 13) HT_.out (fun K hK => ?_)
           refine goes_ Tryz.func28 qr rfl #[.agg #[.string ((rd_T39 l0 x7_1).f0), .bool ((rd_T39 l0 x7_1).f1), .int .i64 ((rd_T39 l0 x7_1).f2), .slice A116_3 ((rd_T39 l0 x7_1).f3).length c116_3]] (by rfl) rfl rfl qG ?_
           with_reducible refine (names_Check.calls k1 ((rd_T39 l0 x7_1).f0) ((rd_T39 l0 x7_1).f1) ((rd_T39 l0 x7_1).f2) _ _ ((rd_T39 l0 x7_1).f3) t118 _ ?side1 ?side2 A5.out).mono ?_
           (case side1 => repeat (first | exact (Kd.C_below HR116_3.out HB.out) | (with_reducible refine Kd.C_alloc ?_ _) | (with_reducible refine Kd.C_drewN ?_ _) | (with_reducible refine Kd.C_drew ?_)))
           (case side2 => exact HC116_3.out)
           rintro e w21 ⟨rfl, hb⟩
           refine ⟨_, rfl, ?_⟩
           replace BK117 := Aside0.mk (blk_below (qK BK117.out) hb)
           replace HB := Aside0.mk (below_step (qB1 HB.out GE117.out) hb)
           (try clear hb)
           (try clear hb2)
           (try clear hk)
           (try clear hi)
           refine hK.out _ _ ⟨(blk_cell BK117.out 0).trans rfl, (blk_cell BK117.out 1).trans rfl, (blk_cell BK117.out 2).trans rfl, (blk_cell BK117.out 3).trans rfl, ((HB.out.cell (World.block_lt_of_cell? w _ hw119_0)).trans hw119_0), ((HB.out.cell (World.block_lt_of_cell? w _ hw119_1)).trans hw119_1), ((HB.out.cell (World.block_lt_of_cell? w _ hw119_2)).trans hw119_2), ((HB.out.cell (World.block_lt_of_cell? w _ hw119_3)).trans hw119_3)⟩ (fun hHeld => ?_)
           clear hK K
           refine qM (N := some 13) ?_
           refine qP (i := 2) (N := some 14) HT_.out ?_
           refine qP (i := 3) (N := some 15) HT_.out ?_
           refine qP (i := 4) (N := some 16) HT_.out ?_
           refine qP (i := 5) (N := some 17) HT_.out ?_
           refine qP (i := 6) (N := some 18) HT_.out ?_
           refine qP (i := 7) (N := some 19) HT_.out ?_
           refine qP (i := 8) (N := some 20) HT_.out ?_
           refine qP (i := 9) (N := some 21) HT_.out ?_
           refine qP (i := 10) (N := some 22) HT_.out ?_
           refine qP (i := 11) (N := some 23) HT_.out ?_
           refine qP (i := 13) (N := some 25) HT_.out ?_
           refine take_ (i := 12) (N := some 24) (v := ?_) (a' := ?_) #[true, true, true, true, true, true, true, true, true, true, true, true, true, true, false, false, false, false] rfl rfl (take_ofW HT_.out HW_.out qr) (fun _ _ _ h => h) (Or.inl ⟨by rfl, ?_⟩) hHeld ?_ ?_
           rotate_left
           ·rintro w' ⟨s0, s1, s2, s3, s4, s5, s6, s7⟩
            go_simp
            with_reducible rfl
           rotate_left
           ·simp only [Act.put, List.setIfInBounds_toArray, List.set_cons_zero, List.set_cons_succ, i64_w, i32_w]
            rfl
           refine take_ (i := 14) (N := some 26) (v := ?_) (a' := ?_) #[true, true, true, true, true, true, true, true, true, true, true, true, true, true, true, false, false, false] rfl rfl (take_ofW HT_.out HW_.out qr) (fun _ _ _ h => h) (Or.inl ⟨by rfl, ?_⟩) hHeld ?_ ?_
           rotate_left
           ·rintro w' ⟨s0, s1, s2, s3, s4, s5, s6, s7⟩
            go_simp
            with_reducible rfl
           rotate_left
           ·simp only [Act.put, List.setIfInBounds_toArray, List.set_cons_zero, List.set_cons_succ, i64_w, i32_w]
            rfl
           refine qP (i := 15) (N := some 27) HT_.out ?_
           refine qP (i := 16) (N := some 28) HT_.out ?_
           refine qP (i := 17) (N := some 29) HT_.out ?_
           refine done_ (done_of HT_.out qr) ?_
           try go_wp2
           go_ret
           exact ⟨by first | rfl | (simp [errW_none, errW_some] <;> rfl) | (simp only [← hji8]; first | rfl | (simp [errW_none, errW_some] <;> rfl)) | (simp [*, errW_none, errW_some] <;> rfl), by repeat (first | (with_reducible first | exact HB.out | apply below_alloc | apply pw_below_drewN | apply below_drew1 | refine below_set ?_ GE117.out) | exact HB.out)⟩
         ·rw [if_neg c10] at H
          exact absurd H (by simp)
        ·rw [if_neg c9] at H
         exact absurd H (by simp)
       ·rw [if_neg c7] at H
        have c7b0 : decide (0 < x7_1) = false := decide_eq_false c7
        clear c7
        have H' := Aside0.mk H
        clear H
        have p116 : 0 ≤ (x7_1 : Int) := of_decide_eq_true qA
        have q116 : x7_1 < (l0.length : Int) := of_decide_eq_true qA
        obtain ⟨ad116, A116_3, c116_3, e116, hx116_0, hx116_1, hx116_2, hx116_3, hl116_3, hi116_3⟩ := at_T39 HR0.out x7_1 p116 q116
        cases e116
        replace hx116_0 := (HB.out.cell (World.block_lt_of_cell? w _ hx116_0)).trans hx116_0
        replace hx116_1 := (HB.out.cell (World.block_lt_of_cell? w _ hx116_1)).trans hx116_1
        replace hx116_2 := (HB.out.cell (World.block_lt_of_cell? w _ hx116_2)).trans hx116_2
        replace hx116_3 := (HB.out.cell (World.block_lt_of_cell? w _ hx116_3)).trans hx116_3
        have HR116_3 := Aside0.mk hi116_3
        have HC116_3 := Aside0.mk hl116_3
        clear hi116_3 hl116_3
        replace p116 := eq_true p116
        replace q116 := eq_true q116
        try go_wp2_with (first | ((with_reducible refine gate_dst (N := 4) rfl ?_); refine box_event ?hg (N := 4) ?hd (cs := #[.string (⟨#[]⟩ : ByteArray), .bool false, .int .i64 0, .slice none 0 0]) (t := 39) ?hr ?_; (case hd => rfl); (case hg => rfl); (case hr => first | (go_simp; done) | (go_simp; rfl)); intro gb117 hg w22 hbox hb; have n0_ := Aside0.mk (below_step (qB HB.out) hb); have n1_ := Aside0.mk (hbox); have n2_ := Aside0.mk ((qs hg (below_size (qB HB.out)) : w.heap.size ≤ gb117)); have n3_ := Aside0.mk ((qs hg (below_size (qB HB.out)) : w.heap.size ≤ gb117)); clear HB; have HB := n0_; have BK117 := n1_; have GW117 := n2_; have GE117 := n3_; clear n0_ n1_ n2_ n3_ hb hbox hg; have hcz23 := qC4 BK117.out))
        have n0_ : Aside0 (((((w22.setCell ⟨gb117, 0, none⟩ (.string ((rd_T39 l0 x7_1).f0))).setCell ⟨gb117, 1, none⟩ (.bool ((rd_T39 l0 x7_1).f1))).setCell ⟨gb117, 2, none⟩ (.int .i64 ((rd_T39 l0 x7_1).f2))).setCell ⟨gb117, 3, none⟩ (.slice A116_3 ((rd_T39 l0 x7_1).f3).length c116_3)).heap[gb117]? = some (.cells #[.string ((rd_T39 l0 x7_1).f0), .bool ((rd_T39 l0 x7_1).f1), .int .i64 ((rd_T39 l0 x7_1).f2), .slice A116_3 ((rd_T39 l0 x7_1).f3).length c116_3] 39 (0, 0))) := ⟨by (with_reducible repeat (first | refine blk_drewN ?_ _ | refine blk_drew ?_ | refine blk_alloc ?_ _)); refine blk_put (cs := #[.string ((rd_T39 l0 x7_1).f0), .bool ((rd_T39 l0 x7_1).f1), .int .i64 ((rd_T39 l0 x7_1).f2), .slice none 0 0]) ?_ 3 _ rfl; (with_reducible repeat (first | refine blk_drewN ?_ _ | refine blk_drew ?_ | refine blk_alloc ?_ _)); refine blk_put (cs := #[.string ((rd_T39 l0 x7_1).f0), .bool ((rd_T39 l0 x7_1).f1), .int .i64 0, .slice none 0 0]) ?_ 2 _ rfl; (with_reducible repeat (first | refine blk_drewN ?_ _ | refine blk_drew ?_ | refine blk_alloc ?_ _)); refine blk_put (cs := #[.string ((rd_T39 l0 x7_1).f0), .bool false, .int .i64 0, .slice none 0 0]) ?_ 1 _ rfl; (with_reducible repeat (first | refine blk_drewN ?_ _ | refine blk_drew ?_ | refine blk_alloc ?_ _)); refine blk_put (cs := #[.string (⟨#[]⟩ : ByteArray), .bool false, .int .i64 0, .slice none 0 0]) ?_ 0 _ rfl; (with_reducible repeat (first | refine blk_drewN ?_ _ | refine blk_drew ?_ | refine blk_alloc ?_ _)); exact BK117.out⟩
        have n1_ : Aside0 (Below w.heap.size w ((((w22.setCell ⟨gb117, 0, none⟩ (.string ((rd_T39 l0 x7_1).f0))).setCell ⟨gb117, 1, none⟩ (.bool ((rd_T39 l0 x7_1).f1))).setCell ⟨gb117, 2, none⟩ (.int .i64 ((rd_T39 l0 x7_1).f2))).setCell ⟨gb117, 3, none⟩ (.slice A116_3 ((rd_T39 l0 x7_1).f3).length c116_3))) := ⟨by repeat (first | (with_reducible first | exact HB.out | apply below_alloc | apply pw_below_drewN | apply below_drew1 | refine below_set ?_ GE117.out) | exact HB.out)⟩
        (try clear BK117)
        (try clear HB)
        generalize ((((w22.setCell ⟨gb117, 0, none⟩ (.string ((rd_T39 l0 x7_1).f0))).setCell ⟨gb117, 1, none⟩ (.bool ((rd_T39 l0 x7_1).f1))).setCell ⟨gb117, 2, none⟩ (.int .i64 ((rd_T39 l0 x7_1).f2))).setCell ⟨gb117, 3, none⟩ (.slice A116_3 ((rd_T39 l0 x7_1).f3).length c116_3)) = w24 at n0_ n1_ ⊢
        have BK117 := n0_
        have HB := n1_
        clear n0_ n1_
        replace BK117 := Aside0.mk (blk_drew BK117.out)
        replace HB := Aside0.mk (below_drew1 HB.out)
        refine start_ (n := 18) (S := fun w' => w'.cell? ⟨gb117, 0, none⟩ = some (.string ((rd_T39 l0 x7_1).f0)) ∧ w'.cell? ⟨gb117, 1, none⟩ = some (.bool ((rd_T39 l0 x7_1).f1)) ∧ w'.cell? ⟨gb117, 2, none⟩ = some (.int .i64 ((rd_T39 l0 x7_1).f2)) ∧ w'.cell? ⟨gb117, 3, none⟩ = some (.slice A116_3 ((rd_T39 l0 x7_1).f3).length c116_3)) (ds := []) #[false, false, false, false, false, false, false, false, false, false, false, false, false, false, false, false, false, false] qr rfl rfl ⟨(blk_cell BK117.out 0).trans rfl, (blk_cell BK117.out 1).trans rfl, (blk_cell BK117.out 2).trans rfl, (blk_cell BK117.out 3).trans rfl⟩ (fun hHeld => ?_); refine with_tabW names_Right.tab4 names_Right.bits4 (fun HT_ HW_ => ?_)
        generalize w24.drew = w25 at BK117 HB hHeld ⊢
        refine take_ (i := 0) (N := some 12) (v := ?_) (a' := ?_) #[true, false, false, false, false, false, false, false, false, false, false, false, false, false, false, false, false, false] rfl rfl (take_ofW HT_.out HW_.out qr) (fun _ _ _ h => h) (Or.inl ⟨by rfl, ?_⟩) hHeld ?_ ?_
        rotate_left
        ·rintro w' ⟨s0, s1, s2, s3⟩
         go_simp
         with_reducible rfl
        rotate_left
        ·simp only [Act.put, List.setIfInBounds_toArray, List.set_cons_zero, List.set_cons_succ, i64_w, i32_w]
         rfl
        refine qO (i := 1) (N := some 13) HT_.out (fun K hK => ?_)
        refine goes_ Tryz.func28 qr rfl #[.agg #[.string ((rd_T39 l0 x7_1).f0), .bool ((rd_T39 l0 x7_1).f1), .int .i64 ((rd_T39 l0 x7_1).f2), .slice A116_3 ((rd_T39 l0 x7_1).f3).length c116_3]] (by rfl) rfl rfl qG ?_
        with_reducible refine (names_Check.calls k1 ((rd_T39 l0 x7_1).f0) ((rd_T39 l0 x7_1).f1) ((rd_T39 l0 x7_1).f2) _ _ ((rd_T39 l0 x7_1).f3) t118 _ ?side1 ?side2 A5.out).mono ?_
        (case side1 => repeat (first | exact (Kd.C_below HR116_3.out HB.out) | (with_reducible refine Kd.C_alloc ?_ _) | (with_reducible refine Kd.C_drewN ?_ _) | (with_reducible refine Kd.C_drew ?_)))
        (case side2 => exact HC116_3.out)
        rintro e w26 ⟨rfl, hb⟩
        refine ⟨_, rfl, ?_⟩
        replace BK117 := Aside0.mk (blk_below (qK BK117.out) hb)
        replace HB := Aside0.mk (below_step (qB1 HB.out GE117.out) hb)
        (try clear hb)
        (try clear hb2)
        (try clear hk)
        (try clear hi)
        refine hK.out _ _ ⟨(blk_cell BK117.out 0).trans rfl, (blk_cell BK117.out 1).trans rfl, (blk_cell BK117.out 2).trans rfl, (blk_cell BK117.out 3).trans rfl⟩ (fun hHeld => ?_)
        clear hK K
        refine qM (N := some 13) ?_
        refine qP (i := 2) (N := some 14) HT_.out ?_
        refine qP (i := 3) (N := some 15) HT_.out ?_
        refine qP (i := 4) (N := some 16) HT_.out ?_
        refine qP (i := 5) (N := some 17) HT_.out ?_
        refine qP (i := 6) (N := some 18) HT_.out ?_
        refine pure_ (i := 7) (N := some 19) (v := undef) (a' := ?_) #[true, true, true, true, true, true, true, true, false, false, false, false, false, false, false, false, false, false] rfl rfl (any_of HT_.out qr) (fun _ _ _ h => h) (Or.inr ⟨by rfl, rfl⟩) ?_ ?_
        rotate_left
        ·simp only [Act.put, List.setIfInBounds_toArray, List.set_cons_zero, List.set_cons_succ, i64_w, i32_w]
         rfl
        refine pure_ (i := 8) (N := some 20) (v := undef) (a' := ?_) #[true, true, true, true, true, true, true, true, true, false, false, false, false, false, false, false, false, false] rfl rfl (any_of HT_.out qr) (fun _ _ _ h => h) (Or.inr ⟨by rfl, rfl⟩) ?_ ?_
        rotate_left
        ·simp only [Act.put, List.setIfInBounds_toArray, List.set_cons_zero, List.set_cons_succ, i64_w, i32_w]
         rfl
        refine pure_ (i := 9) (N := some 21) (v := undef) (a' := ?_) #[true, true, true, true, true, true, true, true, true, true, false, false, false, false, false, false, false, false] rfl rfl (any_of HT_.out qr) (fun _ _ _ h => h) (Or.inr ⟨by rfl, rfl⟩) ?_ ?_
        rotate_left
        ·simp only [Act.put, List.setIfInBounds_toArray, List.set_cons_zero, List.set_cons_succ, i64_w, i32_w]
         rfl
        refine pure_ (i := 10) (N := some 22) (v := undef) (a' := ?_) #[true, true, true, true, true, true, true, true, true, true, true, false, false, false, false, false, false, false] rfl rfl (any_of HT_.out qr) (fun _ _ _ h => h) (Or.inr ⟨by rfl, rfl⟩) ?_ ?_
        rotate_left
        ·simp only [Act.put, List.setIfInBounds_toArray, List.set_cons_zero, List.set_cons_succ, i64_w, i32_w]
         rfl
        refine pure_ (i := 11) (N := some 23) (v := undef) (a' := ?_) #[true, true, true, true, true, true, true, true, true, true, true, true, false, false, false, false, false, false] rfl rfl (any_of HT_.out qr) (fun _ _ _ h => h) (Or.inr ⟨by rfl, rfl⟩) ?_ ?_
        rotate_left
        ·simp only [Act.put, List.setIfInBounds_toArray, List.set_cons_zero, List.set_cons_succ, i64_w, i32_w]
         rfl
        refine pure_ (i := 12) (N := some 24) (v := undef) (a' := ?_) #[true, true, true, true, true, true, true, true, true, true, true, true, true, false, false, false, false, false] rfl rfl (any_of HT_.out qr) (fun _ _ _ h => h) (Or.inr ⟨by rfl, rfl⟩) ?_ ?_
        rotate_left
        ·simp only [Act.put, List.setIfInBounds_toArray, List.set_cons_zero, List.set_cons_succ, i64_w, i32_w]
         rfl
        refine pure_ (i := 13) (N := some 25) (v := undef) (a' := ?_) #[true, true, true, true, true, true, true, true, true, true, true, true, true, true, false, false, false, false] rfl rfl (any_of HT_.out qr) (fun _ _ _ h => h) (Or.inr ⟨by rfl, rfl⟩) ?_ ?_
        rotate_left
        ·simp only [Act.put, List.setIfInBounds_toArray, List.set_cons_zero, List.set_cons_succ, i64_w, i32_w]
         rfl
        refine pure_ (i := 14) (N := some 26) (v := undef) (a' := ?_) #[true, true, true, true, true, true, true, true, true, true, true, true, true, true, true, false, false, false] rfl rfl (any_of HT_.out qr) (fun _ _ _ h => h) (Or.inr ⟨by rfl, rfl⟩) ?_ ?_
        rotate_left
        ·simp only [Act.put, List.setIfInBounds_toArray, List.set_cons_zero, List.set_cons_succ, i64_w, i32_w]
         rfl
        refine pure_ (i := 15) (N := some 27) (v := undef) (a' := ?_) #[true, true, true, true, true, true, true, true, true, true, true, true, true, true, true, true, false, false] rfl rfl (any_of HT_.out qr) (fun _ _ _ h => h) (Or.inr ⟨by rfl, rfl⟩) ?_ ?_
        rotate_left
        ·simp only [Act.put, List.setIfInBounds_toArray, List.set_cons_zero, List.set_cons_succ, i64_w, i32_w]
         rfl
        refine qP (i := 16) (N := some 28) HT_.out ?_
        refine qP (i := 17) (N := some 29) HT_.out ?_
        refine done_ (done_of HT_.out qr) ?_
        try go_wp2
        go_roundg k1
        case measure => have := HK1.out; omega
        case rel => exact ⟨(wrap64 (x7_1 + 1)), qE1, H', ⟨by have := HK1.out; omega⟩, ⟨by repeat (first | (with_reducible first | exact HB.out | apply below_alloc | apply pw_below_drewN | apply below_drew1 | refine below_set ?_ GE117.out) | exact HB.out)⟩⟩
      ·rw [if_neg c6] at H
       have c6b0 : (t118 == 0) = false := beq_eq_false_iff_ne.mpr c6
       have c6b1 : (t118 != 0) = true := bne_iff_ne.mpr c6
       obtain rfl := Option.some.inj H
       have p116 : 0 ≤ (x7_1 : Int) := of_decide_eq_true qA
       have q116 : x7_1 < (l0.length : Int) := of_decide_eq_true qA
       obtain ⟨ad116, A116_3, c116_3, e116, hx116_0, hx116_1, hx116_2, hx116_3, hl116_3, hi116_3⟩ := at_T39 HR0.out x7_1 p116 q116
       cases e116
       replace hx116_0 := (HB.out.cell (World.block_lt_of_cell? w _ hx116_0)).trans hx116_0
       replace hx116_1 := (HB.out.cell (World.block_lt_of_cell? w _ hx116_1)).trans hx116_1
       replace hx116_2 := (HB.out.cell (World.block_lt_of_cell? w _ hx116_2)).trans hx116_2
       replace hx116_3 := (HB.out.cell (World.block_lt_of_cell? w _ hx116_3)).trans hx116_3
       have HR116_3 := Aside0.mk hi116_3
       have HC116_3 := Aside0.mk hl116_3
       clear hi116_3 hl116_3
       replace p116 := eq_true p116
       replace q116 := eq_true q116
       try go_wp2_with (first | ((with_reducible refine gate_dst (N := 4) rfl ?_); refine box_event ?hg (N := 4) ?hd (cs := #[.string (⟨#[]⟩ : ByteArray), .bool false, .int .i64 0, .slice none 0 0]) (t := 39) ?hr ?_; (case hd => rfl); (case hg => rfl); (case hr => first | (go_simp; done) | (go_simp; rfl)); intro gb117 hg w27 hbox hb; have n0_ := Aside0.mk (below_step (qB HB.out) hb); have n1_ := Aside0.mk (hbox); have n2_ := Aside0.mk ((qs hg (below_size (qB HB.out)) : w.heap.size ≤ gb117)); have n3_ := Aside0.mk ((qs hg (below_size (qB HB.out)) : w.heap.size ≤ gb117)); clear HB; have HB := n0_; have BK117 := n1_; have GW117 := n2_; have GE117 := n3_; clear n0_ n1_ n2_ n3_ hb hbox hg; have hcz28 := qC4 BK117.out))
       have n0_ : Aside0 (((((w27.setCell ⟨gb117, 0, none⟩ (.string ((rd_T39 l0 x7_1).f0))).setCell ⟨gb117, 1, none⟩ (.bool ((rd_T39 l0 x7_1).f1))).setCell ⟨gb117, 2, none⟩ (.int .i64 ((rd_T39 l0 x7_1).f2))).setCell ⟨gb117, 3, none⟩ (.slice A116_3 ((rd_T39 l0 x7_1).f3).length c116_3)).heap[gb117]? = some (.cells #[.string ((rd_T39 l0 x7_1).f0), .bool ((rd_T39 l0 x7_1).f1), .int .i64 ((rd_T39 l0 x7_1).f2), .slice A116_3 ((rd_T39 l0 x7_1).f3).length c116_3] 39 (0, 0))) := ⟨by (with_reducible repeat (first | refine blk_drewN ?_ _ | refine blk_drew ?_ | refine blk_alloc ?_ _)); refine blk_put (cs := #[.string ((rd_T39 l0 x7_1).f0), .bool ((rd_T39 l0 x7_1).f1), .int .i64 ((rd_T39 l0 x7_1).f2), .slice none 0 0]) ?_ 3 _ rfl; (with_reducible repeat (first | refine blk_drewN ?_ _ | refine blk_drew ?_ | refine blk_alloc ?_ _)); refine blk_put (cs := #[.string ((rd_T39 l0 x7_1).f0), .bool ((rd_T39 l0 x7_1).f1), .int .i64 0, .slice none 0 0]) ?_ 2 _ rfl; (with_reducible repeat (first | refine blk_drewN ?_ _ | refine blk_drew ?_ | refine blk_alloc ?_ _)); refine blk_put (cs := #[.string ((rd_T39 l0 x7_1).f0), .bool false, .int .i64 0, .slice none 0 0]) ?_ 1 _ rfl; (with_reducible repeat (first | refine blk_drewN ?_ _ | refine blk_drew ?_ | refine blk_alloc ?_ _)); refine blk_put (cs := #[.string (⟨#[]⟩ : ByteArray), .bool false, .int .i64 0, .slice none 0 0]) ?_ 0 _ rfl; (with_reducible repeat (first | refine blk_drewN ?_ _ | refine blk_drew ?_ | refine blk_alloc ?_ _)); exact BK117.out⟩
       have n1_ : Aside0 (Below w.heap.size w ((((w27.setCell ⟨gb117, 0, none⟩ (.string ((rd_T39 l0 x7_1).f0))).setCell ⟨gb117, 1, none⟩ (.bool ((rd_T39 l0 x7_1).f1))).setCell ⟨gb117, 2, none⟩ (.int .i64 ((rd_T39 l0 x7_1).f2))).setCell ⟨gb117, 3, none⟩ (.slice A116_3 ((rd_T39 l0 x7_1).f3).length c116_3))) := ⟨by repeat (first | (with_reducible first | exact HB.out | apply below_alloc | apply pw_below_drewN | apply below_drew1 | refine below_set ?_ GE117.out) | exact HB.out)⟩
       (try clear BK117)
       (try clear HB)
       generalize ((((w27.setCell ⟨gb117, 0, none⟩ (.string ((rd_T39 l0 x7_1).f0))).setCell ⟨gb117, 1, none⟩ (.bool ((rd_T39 l0 x7_1).f1))).setCell ⟨gb117, 2, none⟩ (.int .i64 ((rd_T39 l0 x7_1).f2))).setCell ⟨gb117, 3, none⟩ (.slice A116_3 ((rd_T39 l0 x7_1).f3).length c116_3)) = w29 at n0_ n1_ ⊢
       have BK117 := n0_
       have HB := n1_
       clear n0_ n1_
       replace BK117 := Aside0.mk (blk_drew BK117.out)
       replace HB := Aside0.mk (below_drew1 HB.out)
       refine start_ (n := 18) (S := fun w' => w'.cell? ⟨gb117, 0, none⟩ = some (.string ((rd_T39 l0 x7_1).f0)) ∧ w'.cell? ⟨gb117, 1, none⟩ = some (.bool ((rd_T39 l0 x7_1).f1)) ∧ w'.cell? ⟨gb117, 2, none⟩ = some (.int .i64 ((rd_T39 l0 x7_1).f2)) ∧ w'.cell? ⟨gb117, 3, none⟩ = some (.slice A116_3 ((rd_T39 l0 x7_1).f3).length c116_3)) (ds := []) #[false, false, false, false, false, false, false, false, false, false, false, false, false, false, false, false, false, false] qr rfl rfl ⟨(blk_cell BK117.out 0).trans rfl, (blk_cell BK117.out 1).trans rfl, (blk_cell BK117.out 2).trans rfl, (blk_cell BK117.out 3).trans rfl⟩ (fun hHeld => ?_); refine with_tabW names_Right.tab4 names_Right.bits4 (fun HT_ HW_ => ?_)
       generalize w29.drew = w30 at BK117 HB hHeld ⊢
       refine take_ (i := 0) (N := some 12) (v := ?_) (a' := ?_) #[true, false, false, false, false, false, false, false, false, false, false, false, false, false, false, false, false, false] rfl rfl (take_ofW HT_.out HW_.out qr) (fun _ _ _ h => h) (Or.inl ⟨by rfl, ?_⟩) hHeld ?_ ?_
       rotate_left
       ·rintro w' ⟨s0, s1, s2, s3⟩
        go_simp
        with_reducible rfl
       rotate_left
       ·simp only [Act.put, List.setIfInBounds_toArray, List.set_cons_zero, List.set_cons_succ, i64_w, i32_w]
        rfl
       refine qO (i := 1) (N := some 13) HT_.out (fun K hK => ?_)
       refine goes_ Tryz.func28 qr rfl #[.agg #[.string ((rd_T39 l0 x7_1).f0), .bool ((rd_T39 l0 x7_1).f1), .int .i64 ((rd_T39 l0 x7_1).f2), .slice A116_3 ((rd_T39 l0 x7_1).f3).length c116_3]] (by rfl) rfl rfl qG ?_
       with_reducible refine (names_Check.calls k1 ((rd_T39 l0 x7_1).f0) ((rd_T39 l0 x7_1).f1) ((rd_T39 l0 x7_1).f2) _ _ ((rd_T39 l0 x7_1).f3) t118 _ ?side1 ?side2 A5.out).mono ?_
       (case side1 => repeat (first | exact (Kd.C_below HR116_3.out HB.out) | (with_reducible refine Kd.C_alloc ?_ _) | (with_reducible refine Kd.C_drewN ?_ _) | (with_reducible refine Kd.C_drew ?_)))
       (case side2 => exact HC116_3.out)
       rintro e w31 ⟨rfl, hb⟩
       refine ⟨_, rfl, ?_⟩
       replace BK117 := Aside0.mk (blk_below (qK BK117.out) hb)
       replace HB := Aside0.mk (below_step (qB1 HB.out GE117.out) hb)
       (try clear hb)
       (try clear hb2)
       (try clear hk)
       (try clear hi)
       refine hK.out _ _ ⟨(blk_cell BK117.out 0).trans rfl, (blk_cell BK117.out 1).trans rfl, (blk_cell BK117.out 2).trans rfl, (blk_cell BK117.out 3).trans rfl⟩ (fun hHeld => ?_)
       clear hK K
       refine qM (N := some 13) ?_
       refine qP (i := 2) (N := some 14) HT_.out ?_
       refine qP (i := 3) (N := some 15) HT_.out ?_
       refine pure_ (i := 4) (N := some 16) (v := undef) (a' := ?_) #[true, true, true, true, true, false, false, false, false, false, false, false, false, false, false, false, false, false] rfl rfl (any_of HT_.out qr) (fun _ _ _ h => h) (Or.inr ⟨by rfl, rfl⟩) ?_ ?_
       rotate_left
       ·simp only [Act.put, List.setIfInBounds_toArray, List.set_cons_zero, List.set_cons_succ, i64_w, i32_w]
        rfl
       refine pure_ (i := 5) (N := some 17) (v := undef) (a' := ?_) #[true, true, true, true, true, true, false, false, false, false, false, false, false, false, false, false, false, false] rfl rfl (any_of HT_.out qr) (fun _ _ _ h => h) (Or.inr ⟨by rfl, rfl⟩) ?_ ?_
       rotate_left
       ·simp only [Act.put, List.setIfInBounds_toArray, List.set_cons_zero, List.set_cons_succ, i64_w, i32_w]
        rfl
       refine pure_ (i := 6) (N := some 18) (v := undef) (a' := ?_) #[true, true, true, true, true, true, true, false, false, false, false, false, false, false, false, false, false, false] rfl rfl (any_of HT_.out qr) (fun _ _ _ h => h) (Or.inr ⟨by rfl, rfl⟩) ?_ ?_
       rotate_left
       ·simp only [Act.put, List.setIfInBounds_toArray, List.set_cons_zero, List.set_cons_succ, i64_w, i32_w]
        rfl
       refine pure_ (i := 7) (N := some 19) (v := undef) (a' := ?_) #[true, true, true, true, true, true, true, true, false, false, false, false, false, false, false, false, false, false] rfl rfl (any_of HT_.out qr) (fun _ _ _ h => h) (Or.inr ⟨by rfl, rfl⟩) ?_ ?_
       rotate_left
       ·simp only [Act.put, List.setIfInBounds_toArray, List.set_cons_zero, List.set_cons_succ, i64_w, i32_w]
        rfl
       refine pure_ (i := 8) (N := some 20) (v := undef) (a' := ?_) #[true, true, true, true, true, true, true, true, true, false, false, false, false, false, false, false, false, false] rfl rfl (any_of HT_.out qr) (fun _ _ _ h => h) (Or.inr ⟨by rfl, rfl⟩) ?_ ?_
       rotate_left
       ·simp only [Act.put, List.setIfInBounds_toArray, List.set_cons_zero, List.set_cons_succ, i64_w, i32_w]
        rfl
       refine pure_ (i := 9) (N := some 21) (v := undef) (a' := ?_) #[true, true, true, true, true, true, true, true, true, true, false, false, false, false, false, false, false, false] rfl rfl (any_of HT_.out qr) (fun _ _ _ h => h) (Or.inr ⟨by rfl, rfl⟩) ?_ ?_
       rotate_left
       ·simp only [Act.put, List.setIfInBounds_toArray, List.set_cons_zero, List.set_cons_succ, i64_w, i32_w]
        rfl
       refine pure_ (i := 10) (N := some 22) (v := undef) (a' := ?_) #[true, true, true, true, true, true, true, true, true, true, true, false, false, false, false, false, false, false] rfl rfl (any_of HT_.out qr) (fun _ _ _ h => h) (Or.inr ⟨by rfl, rfl⟩) ?_ ?_
       rotate_left
       ·simp only [Act.put, List.setIfInBounds_toArray, List.set_cons_zero, List.set_cons_succ, i64_w, i32_w]
        rfl
       refine pure_ (i := 11) (N := some 23) (v := undef) (a' := ?_) #[true, true, true, true, true, true, true, true, true, true, true, true, false, false, false, false, false, false] rfl rfl (any_of HT_.out qr) (fun _ _ _ h => h) (Or.inr ⟨by rfl, rfl⟩) ?_ ?_
       rotate_left
       ·simp only [Act.put, List.setIfInBounds_toArray, List.set_cons_zero, List.set_cons_succ, i64_w, i32_w]
        rfl
       refine pure_ (i := 12) (N := some 24) (v := undef) (a' := ?_) #[true, true, true, true, true, true, true, true, true, true, true, true, true, false, false, false, false, false] rfl rfl (any_of HT_.out qr) (fun _ _ _ h => h) (Or.inr ⟨by rfl, rfl⟩) ?_ ?_
       rotate_left
       ·simp only [Act.put, List.setIfInBounds_toArray, List.set_cons_zero, List.set_cons_succ, i64_w, i32_w]
        rfl
       refine pure_ (i := 13) (N := some 25) (v := undef) (a' := ?_) #[true, true, true, true, true, true, true, true, true, true, true, true, true, true, false, false, false, false] rfl rfl (any_of HT_.out qr) (fun _ _ _ h => h) (Or.inr ⟨by rfl, rfl⟩) ?_ ?_
       rotate_left
       ·simp only [Act.put, List.setIfInBounds_toArray, List.set_cons_zero, List.set_cons_succ, i64_w, i32_w]
        rfl
       refine pure_ (i := 14) (N := some 26) (v := undef) (a' := ?_) #[true, true, true, true, true, true, true, true, true, true, true, true, true, true, true, false, false, false] rfl rfl (any_of HT_.out qr) (fun _ _ _ h => h) (Or.inr ⟨by rfl, rfl⟩) ?_ ?_
       rotate_left
       ·simp only [Act.put, List.setIfInBounds_toArray, List.set_cons_zero, List.set_cons_succ, i64_w, i32_w]
        rfl
       refine pure_ (i := 15) (N := some 27) (v := undef) (a' := ?_) #[true, true, true, true, true, true, true, true, true, true, true, true, true, true, true, true, false, false] rfl rfl (any_of HT_.out qr) (fun _ _ _ h => h) (Or.inr ⟨by rfl, rfl⟩) ?_ ?_
       rotate_left
       ·simp only [Act.put, List.setIfInBounds_toArray, List.set_cons_zero, List.set_cons_succ, i64_w, i32_w]
        rfl
       refine pure_ (i := 16) (N := some 28) (v := undef) (a' := ?_) #[true, true, true, true, true, true, true, true, true, true, true, true, true, true, true, true, true, false] rfl rfl (any_of HT_.out qr) (fun _ _ _ h => h) (Or.inr ⟨by rfl, rfl⟩) ?_ ?_
       rotate_left
       ·simp only [Act.put, List.setIfInBounds_toArray, List.set_cons_zero, List.set_cons_succ, i64_w, i32_w]
        rfl
       refine qP (i := 17) (N := some 29) HT_.out ?_
       refine done_ (done_of HT_.out qr) ?_
       try go_wp2
       go_ret
       exact ⟨qE, by repeat (first | (with_reducible first | exact HB.out | apply below_alloc | apply pw_below_drewN | apply below_drew1 | refine below_set ?_ GE117.out) | exact HB.out)⟩
     ·rw [if_neg c4] at H
      exact absurd H (by simp)
    ·rw [if_neg c3] at H
     exact absurd H (by simp)
   ·rw [if_neg c2] at H
    have c2b0 : decide (x7_1 < (l0.length : Int)) = false := decide_eq_false c2
    clear c2
    obtain rfl := Option.some.inj H
    go_wp2
    go_ret
    exact ⟨qE, by repeat (first | (with_reducible first | exact HB.out | apply below_alloc | apply pw_below_drewN | apply below_drew1) | exact HB.out)⟩
end Go.Proofs.YtlglbpjccpdloaaGreat.PNamA
set_option linter.unusedVariables false
set_option linter.unusedSimpArgs false
namespace Go.Proofs.YtlglbpjccpdloaaGreat.Ext
open Go.RowKit Go.Proofs.YtlglbpjccpdloaaGreat.PNamA Go.Proofs.YtlglbpjccpdloaaGreat.Tox Go.Proofs.YtlglbpjccpdloaaGreat.ToxZ Go.Proofs.YtlglbpjccpdloaaGreatW.PrintWords Go.Proofs.YtlglbpjccpdloaaGreatW.PrintLast
def ckT (t : S24) : Int := checkOf t.f0 t.f1 t.f2 t.f3 t.f4 t.f5
def firstBad : List S24 → Int
  | [] => 0
  | t :: r => if ckT t = 0 then firstBad r else ckT t
def dupR (ns : List ByteArray) : List ByteArray → Nat → Bool
  | [], _ => false
  | x :: r, i => if place ns x = (i : Int) then dupR ns r (i + 1) else true
def namesT (l : List S24) : List ByteArray := l.map (·.f0)
def namesP (l : List S39) : List ByteArray := l.map (·.f0)
def toxOk (l : List S24) : Int := if firstBad l = 0 then (if dupR (namesT l) (namesT l) 0 then 141 else 0) else firstBad l
def chkP (x : S39) : Int := if nameOk x.f0 then (if 1 ≤ x.f2 ∧ x.f2 ≤ 16 then (if x.f3.length > 8 then 143 else toxOk x.f3) else 144) else 140
def ltS (a b : ByteArray) : Bool := Op.bytesLess a.toList b.toList
def sortedFrom : ByteArray → List ByteArray → Bool
  | _, [] => true
  | p, x :: r => ltS p x && sortedFrom x r
def sortedB : List ByteArray → Bool
  | [] => true
  | x :: r => sortedFrom x r
def rightB (l : List S39) : Bool := l.all (fun x => chkP x == 0) && sortedB (namesP l) && decide (l.length ≤ 8)
theorem w64_in' (x : Int) (h : -9223372036854775808 ≤ x) (h2 : x ≤ 9223372036854775807) : wrap64 x = x := by unfold wrap64; omega
theorem rdT_at (l : List S24) (i : Nat) (h : i < l.length) : rd_T24 l (i : Int) = l[i] := by simp [rd_T24, h]
theorem rdP_at (l : List S39) (i : Nat) (h : i < l.length) : rd_T39 l (i : Int) = l[i] := by simp [rd_T39, h]
theorem chk_l1 (l : List S24) (hm : l.length ≤ 1000) (a : ByteArray) (b : Bool) (c : Int) : ∀ (k i : Nat), l.length - i < k → i ≤ l.length →
    names_Check.l1 k l (l.length : Int) (i : Int) a b c l = some (if dupR (namesT l) ((namesT l).drop i) i then 141 else 0) := by
  intro k
  induction k with
  | zero => intro i h; omega
  | succ k ih =>
    intro i h hi
    unfold names_Check.l1
    by_cases hl : i < l.length
    · have hd : (namesT l).drop i = l[i].f0 :: (namesT l).drop (i + 1) := by
        rw [namesT, List.drop_eq_getElem_cons (by simpa using hl)]; simp
      rw [if_pos (by omega), if_pos (by omega), if_pos (by omega), rdT_at l i hl, hd, dupR]
      simp only [names_at_api_Toxic.f, Option.bind_some]
      by_cases hp : place (namesT l) l[i].f0 = (i : Int)
      · rw [if_pos (show place (l.map (·.f0)) l[i].f0 = (i : Int) from hp), if_pos hp, show wrap64 ((i : Int) + 1) = ((i + 1 : Nat) : Int) by rw [w64_in' _ (by omega) (by omega)]; rfl]
        exact ih (i + 1) (by omega) (by omega)
      · rw [if_neg (show ¬ place (l.map (·.f0)) l[i].f0 = (i : Int) from hp), if_neg hp]
        rfl
    · have hi2 : i = l.length := by omega
      rw [if_neg (by omega), List.drop_eq_nil_of_le (by simp [namesT]; omega)]
      rfl
theorem chk_l0 (l : List S24) (hm : l.length ≤ 1000) (a : ByteArray) (b : Bool) (c : Int) : ∀ (k i : Nat), (l.length - i) + l.length + 1 < k → i ≤ l.length →
    names_Check.l0 k l (l.length : Int) (i : Int) a b c l = some (if firstBad (l.drop i) = 0 then (if dupR (namesT l) (namesT l) 0 then 141 else 0) else firstBad (l.drop i)) := by
  intro k
  induction k with
  | zero => intro i h; omega
  | succ k ih =>
    intro i h hi
    unfold names_Check.l0
    by_cases hl : i < l.length
    · rw [if_pos (by omega), if_pos (by omega), if_pos (by omega), rdT_at l i hl, List.drop_eq_getElem_cons hl, firstBad]
      simp only [toxic_Check.f, Option.bind_some]
      by_cases hp : ckT l[i] = 0
      · rw [if_pos (show checkOf _ _ _ _ _ _ = 0 from hp), if_pos hp, show wrap64 ((i : Int) + 1) = ((i + 1 : Nat) : Int) by rw [w64_in' _ (by omega) (by omega)]; rfl]
        exact ih (i + 1) (by omega) (by omega)
      · rw [if_neg (show ¬ checkOf _ _ _ _ _ _ = 0 from hp), if_neg hp, if_neg hp]
        rfl
    · have hi2 : i = l.length := by omega
      rw [if_neg (by omega), List.drop_eq_nil_of_le (by omega)]
      have := chk_l1 l hm a b c k 0 (by omega) (by omega)
      rw [List.drop_zero] at this
      rw [if_pos (show firstBad [] = 0 from rfl)]
      exact this
theorem check_is' (x : S39) (k : Nat) (hk : 20 ≤ k) : names_Check.f k x.f0 x.f1 x.f2 x.f3 = some (chkP x) := by
  unfold names_Check.f chkP names_may.f
  simp only [toxic_Name.f, Option.bind_some]
  by_cases hn : nameOk x.f0 = true
  · rw [if_pos hn, if_pos hn]
    by_cases h1 : 1 ≤ x.f2
    · rw [if_pos (show x.f2 ≥ 1 from h1), Option.bind_some]
      by_cases h2 : x.f2 ≤ 16
      · rw [if_pos (show decide (x.f2 ≤ 16) = true from decide_eq_true h2), if_pos (show 1 ≤ x.f2 ∧ x.f2 ≤ 16 from ⟨h1, h2⟩)]
        by_cases h3 : x.f3.length > 8
        · rw [if_pos (by omega), if_pos h3]
        · rw [if_neg (by omega), if_neg h3]
          have := chk_l0 x.f3 (by omega) x.f0 x.f1 x.f2 k 0 (by omega) (by omega)
          rw [List.drop_zero] at this
          exact this
      · rw [if_neg (show ¬ decide (x.f2 ≤ 16) = true by simpa using h2), if_neg (by omega)]
    · rw [if_neg (show ¬ x.f2 ≥ 1 from h1), Option.bind_some, if_neg (by simp), if_neg (by omega)]
  · rw [if_neg hn, if_neg hn]
theorem right_l0 (l : List S39) (hm : l.length ≤ 4611686018427387904) : ∀ (k i : Nat), (l.length - i) + 21 < k → i ≤ l.length →
    names_Right.l0 k l l (l.length : Int) (i : Int) = some ((l.drop i).all (fun x => chkP x == 0) && (if i = 0 then sortedB (namesP l) else sortedB ((namesP l).drop (i - 1))) && decide (l.length ≤ 8)) := by
  intro k
  induction k with
  | zero => intro i h; omega
  | succ k ih =>
    intro i h hi
    unfold names_Right.l0
    by_cases hl : i < l.length
    · rw [if_pos (by omega), if_pos (by omega), if_pos (by omega), rdP_at l i hl, check_is' _ k (by omega), Option.bind_some, List.drop_eq_getElem_cons hl]
      have hw : wrap64 ((i : Int) + 1) = ((i + 1 : Nat) : Int) := by rw [w64_in' _ (by omega) (by omega)]; rfl
      have hstep := ih (i + 1) (by omega) (by omega)
      rw [if_neg (by omega), Nat.add_sub_cancel] at hstep
      by_cases hc : chkP l[i] = 0
      · rw [if_pos hc]
        simp only [List.all_cons, hc, beq_self_eq_true, Bool.true_and]
        by_cases h0 : i = 0
        · subst h0
          rw [if_neg (by simp), if_pos rfl, hw, hstep]
          rfl
        · have hw2 : wrap64 ((i : Int) - 1) = ((i - 1 : Nat) : Int) := by rw [w64_in' _ (by omega) (by omega)]; omega
          have hl1 : i - 1 < l.length := by omega
          rw [if_pos (by omega), if_neg h0, hw2, if_pos (by omega), if_pos (by omega), rdP_at l (i - 1) hl1, hw]
          have hd : (namesP l).drop (i - 1) = l[i - 1].f0 :: (namesP l).drop i := by
            rw [namesP, List.drop_eq_getElem_cons (by simpa using hl1)]
            simp [show i - 1 + 1 = i by omega]
          have hd2 : (namesP l).drop i = l[i].f0 :: (namesP l).drop (i + 1) := by
            rw [namesP, List.drop_eq_getElem_cons (by simpa using hl)]; simp
          rw [hd, hd2, sortedB, sortedFrom]
          rw [hd2, sortedB] at hstep
          cases hb : ltS l[i - 1].f0 l[i].f0
          · rw [if_neg (show ¬ Op.bytesLess _ _ = true by rw [show Op.bytesLess _ _ = false from hb]; simp)]
            simp
          · rw [if_pos (show Op.bytesLess _ _ = true from hb), hstep, Bool.true_and]
      · rw [if_neg hc]
        have : (chkP l[i] == 0) = false := by simpa using hc
        rw [List.all_cons, this]
        simp only [Bool.false_and]
    · have hi2 : i = l.length := by omega
      rw [if_neg (by omega), List.drop_eq_nil_of_le (by omega)]
      have hs : (if i = 0 then sortedB (namesP l) else sortedB ((namesP l).drop (i - 1))) = true := by
        by_cases h0 : i = 0
        · rw [if_pos h0]
          have : l = [] := List.eq_nil_of_length_eq_zero (by omega)
          rw [this]; rfl
        · rw [if_neg h0]
          have hd : (namesP l).drop (i - 1) = [l[i - 1].f0] := by
            rw [namesP, List.drop_eq_getElem_cons (by simp; omega), List.drop_eq_nil_of_le (by simp; omega)]; simp
          rw [hd]; rfl
      rw [hs]
      simp only [List.all_nil, Bool.true_and, Option.some.injEq]
      rw [Bool.eq_iff_iff, decide_eq_true_eq, decide_eq_true_eq]
      omega
theorem right_is' (l : List S39) (hm : l.length ≤ 4611686018427387904) (k : Nat) (hk : l.length + 22 ≤ k) : names_Right.f k l = some (rightB l) := by
  have := right_l0 l hm k 0 (by omega) (by omega)
  rw [List.drop_zero, if_pos rfl] at this
  exact this
theorem right_calls (A0 : Option Addr) (c0 : Nat) (l0 : List S39) (w : World) (hr0 : Kd.C k39 w A0 l0.length l0) (hc0 : l0.length ≤ c0) (hm : l0.length ≤ 4611686018427387904) :
    Calls Tryz.prog 13 #[.slice A0 l0.length c0] w fun e w' => e = .returned (.bool (rightB l0)) ∧ Below w.heap.size w w' :=
  names_Right.calls _ A0 c0 l0 _ w hr0 hc0 (right_is' l0 hm _ (Nat.le_refl _))
end Go.Proofs.YtlglbpjccpdloaaGreat.Ext
set_option linter.unusedVariables false
set_option linter.unusedSimpArgs false
namespace Go.Proofs.YtlglbpjccpdloaaGreat.Ext
open Go.RowKit Go.Proofs.YtlglbpjccpdloaaGreat.PNamA Go.Proofs.YtlglbpjccpdloaaGreat.Tox Go.Proofs.YtlglbpjccpdloaaGreat.ToxZ Go.Proofs.YtlglbpjccpdloaaGreatW.PrintWords Go.Proofs.YtlglbpjccpdloaaGreatW.PrintLast
abbrev PT := S39 × Int
def onT (on : Bool) (p : S39) : PT := (⟨p.f0, on, p.f2, p.f3⟩, 0)
def idT (p : S39) : PT := (p, 0)
def dropT (s : ByteArray) (p : S39) : PT :=
  if place (namesT p.f3) s < 0 then (p, 142) else (⟨p.f0, p.f1, p.f2, p.f3.eraseIdx (place (namesT p.f3) s).toNat⟩, 0)
def addT (t : S24) (p : S39) : PT :=
  if ckT t ≠ 0 then (p, ckT t) else if 0 ≤ place (namesT p.f3) t.f0 then (p, 141) else if 8 ≤ p.f3.length then (p, 143) else (⟨p.f0, p.f1, p.f2, p.f3 ++ [t]⟩, 0)
def setT (t : S24) (p : S39) : PT :=
  if ckT t ≠ 0 then (p, ckT t) else if place (namesT p.f3) t.f0 < 0 then (p, 142)
  else if (p.f3.getD (place (namesT p.f3) t.f0).toNat z24).f1 ≠ t.f1 ∨ (p.f3.getD (place (namesT p.f3) t.f0).toNat z24).f2 ≠ t.f2 then (p, 91)
  else (⟨p.f0, p.f1, p.f2, p.f3.set (place (namesT p.f3) t.f0).toNat t⟩, 0)
def CloP (B b n cap : Nat) (xs : List S39) (i : Nat) (y : PT) (W : World) (e : Ending) (w' : World) : Prop :=
  e = .returned (.int .i64 y.2) ∧ SP w' B b n cap (xs.set i y.1) ∧ Below B W w'
theorem set_self {xs : List S39} {i : Nat} {x : S39} (hx : xs[i]? = some x) : xs.set i x = xs := by
  apply List.ext_getElem?
  intro j
  rw [List.getElem?_set]
  split
  · rename_i h; subst h
    rw [if_pos (List.getElem?_eq_some_iff.1 hx).1, hx]
  · rfl
theorem SP_b {W : World} {B b n cap : Nat} {xs : List S39} (h : SP W B b n cap xs) : B ≤ b ∧ b < W.heap.size := ⟨Kd.S_base h b (by simp [Value.ownBlock]), Kd.S_lt h b (by simp [Value.ownBlock])⟩
set_option maxRecDepth 100000 in
theorem switch_clo {W : World} {B b n cap i bo : Nat} {xs : List S39} {x : S39} (on : Bool) (h : SP W B b n cap xs) (hx : xs[i]? = some x) (ho : W.cell? ⟨bo, 0, none⟩ = some (.bool on)) :
    Calls Tryz.prog 50 #[.pointer (some ⟨b, i * 4, none⟩), .pointer (some ⟨bo, 0, none⟩)] W (CloP B b n cap xs i (onT on x) W) := by
  obtain ⟨hBb, hbw⟩ := SP_b h
  obtain ⟨oki, A, c, hR, x0, x1, x2, x3, hfr, hok, hH⟩ := elemP h hx
  have y1 := hfr 1
  obtain ⟨hS, hg⟩ := on_set h hx on
  have HE : Hid (CloP B b n cap xs i (onT on x) W (.returned (.int .i64 0)) (W.setCell ⟨b, i * 4 + 1, none⟩ (.bool on))) := Lib.hid ⟨rfl, hS, (Below.refl B W).setCell hBb _⟩
  clear hS hg hR hok hH hfr h hx
  generalize onT on x = y at *
  go_enter Tryz.func50, Tryz.ntmps50
  go_wp2_with fail
  go_ret
  exact HE.out
set_option maxRecDepth 100000 in
theorem id_clo {W : World} {B b n cap i : Nat} {xs : List S39} {x : S39} (h : SP W B b n cap xs) (hx : xs[i]? = some x) :
    Calls Tryz.prog 44 #[.pointer (some ⟨b, i * 4, none⟩)] W (CloP B b n cap xs i (idT x) W) := by
  have HE : Hid (CloP B b n cap xs i (idT x) W (.returned (.int .i64 0)) W) := Lib.hid ⟨rfl, by rw [idT, set_self hx]; exact h, Below.refl _ _⟩
  clear h hx
  generalize idT x = y at *
  go_enter Tryz.func44, Tryz.ntmps44
  go_wp2_with fail
  go_ret
  exact HE.out
theorem place_lt {l : List ByteArray} {s : ByteArray} : place l s < l.length ∧ -1 ≤ place l s := by
  have key : ∀ (l : List ByteArray) (i : Nat), Lib.idxFromS l s i < ((i + l.length : Nat) : Int) ∧ -1 ≤ Lib.idxFromS l s i := by
    intro l
    induction l with
    | nil => intro i; simp [Lib.idxFromS]; omega
    | cons y r ih =>
      intro i
      rw [Lib.idxFromS]
      split
      · simp; omega
      · have := ih (i + 1)
        simp only [List.length_cons]
        omega
  have := key l 0
  simpa [place, Lib.idxOfS] using this
set_option maxRecDepth 100000 in
set_option maxHeartbeats 1000000 in
theorem droptoxic_clo {W : World} {B b n cap i bo : Nat} {xs : List S39} {x : S39} (s : ByteArray) (hB : B ≤ W.heap.size) (h : SP W B b n cap xs) (hx : xs[i]? = some x) (ho : W.cell? ⟨bo, 0, none⟩ = some (.string s)) (h8 : x.f3.length ≤ 1000000) :
    Calls Tryz.prog 51 #[.pointer (some ⟨b, i * 4, none⟩), .pointer (some ⟨bo, 0, none⟩)] W (CloP B b n cap xs i (dropT s x) W) := by
  obtain ⟨hBb, hbw⟩ := SP_b h
  obtain ⟨oki, A, c, hR, x0, x1, x2, x3, hfr, hok, hH⟩ := elemP h hx
  have y3 := hfr 3
  have HAT := Lib.hid (fun W' (hb : Below W.heap.size W W') => names_at_api_Toxic.calls A c x.f3 s _ W' (Kd.C_below (Kd.R_reads' hR).2.2 hb) (Kd.R_reads' hR).2.1 rfl)
  have hpl := place_lt (l := namesT x.f3) (s := s)
  have HN : Hid (CloP B b n cap xs i (x, 142) W (.returned (.int .i64 142)) W) := Lib.hid ⟨rfl, by rw [set_self hx]; exact h, Below.refl _ _⟩
  have HP := Lib.hid (show place (x.f3.map (·.f0)) s = place (namesT x.f3) s from rfl)
  unfold dropT
  by_cases hneg : place (namesT x.f3) s < 0
  · rw [if_pos hneg]
    rw [HP.out] at HAT
    have HX := Lib.hid (And.intro h hx)
    generalize place (namesT x.f3) s = p at *
    have HB0 := Lib.hid (Below.refl W.heap.size W)
    clear hR hok hH hfr h hx HP
    go_enter Tryz.func51, Tryz.ntmps51
    go_wp2_with fail
    go_region_held3 (fun W' => W'.cell? ⟨b, i * 4 + 3, none⟩ = some (.slice A x.f3.length c) ∧ W'.cell? ⟨bo, 0, none⟩ = some (.string s) ∧ Below W.heap.size W W')
      (first
        | exact ⟨nm_cell_at HB0.out.drew x3, nm_cell_at HB0.out.drew ho, HB0.out.drew⟩
        | exact ⟨nm_cell_at HBQ.out x3, nm_cell_at HBQ.out ho, HBQ.out⟩
        | go_keep)
      ((go_at_call 40; obtain ⟨_, _, hq⟩ := ‹_ ∧ _ ∧ Below W.heap.size W _›; refine (HAT.out _ hq).mono ?_; rintro e w1 ⟨rfl, hcl⟩; have HBQ := Lib.hid (hq.trans (hcl.mono hq.size)); clear hcl hq))
    all_goals
      go_wp2_with fail
      go_ret
      exact ⟨rfl, by rw [set_self HX.out.2]; exact Kd.S_below HX.out.1 HBQ.out, HBQ.out.mono hB⟩
  · rw [if_neg hneg]
    rw [HP.out] at HAT
    obtain ⟨k, hk⟩ : ∃ k : Nat, place (namesT x.f3) s = (k : Int) := ⟨(place (namesT x.f3) s).toNat, by omega⟩
    rw [hk] at HAT hpl ⊢
    have hkl : k < x.f3.length := by have := hpl.1; simp [namesT] at this; exact this
    obtain ⟨m, hm⟩ : ∃ m, x.f3.length = m + 1 := ⟨x.f3.length - 1, by omega⟩
    obtain ⟨g, cc, hv, hBg, hgw, _⟩ := Kd.R_form hR (by omega)
    have hA : A = some ⟨g, 0, none⟩ := by injection hv
    subst hA
    have hgok : oki g := hR.1 g (by simp [Value.ownBlock])
    have hgb : g ≠ b := hok g hgok
    rw [hm] at hR HAT x3 hH h8
    have HH := Lib.hid (And.intro hR (And.intro hH (And.intro hok (And.intro hgok (And.intro h hx)))))
    have hin : i < n := by have := (Kd.S_reads' h).1; have := (List.getElem?_eq_some_iff.1 hx).1; omega
    have HB0 := Lib.hid (Below.refl W.heap.size W)
    have HM := Lib.hid hm
    have HK := Lib.hid hk
    have q0 : ¬ ((k : Int) < 0) := by omega
    have q1 : IntKind.i64.wrap ((k : Int) + 1) = (k : Int) + 1 := IntWalk.i64_in _ (by omega)
    clear hR hok hH hfr h hx HP hv hm hk hneg hgok
    go_enter Tryz.func51, Tryz.ntmps51
    go_wp2_with fail
    go_region_held3 (fun W' => W'.cell? ⟨b, i * 4 + 3, none⟩ = some (.slice (some ⟨g, 0, none⟩) (m + 1) c) ∧ W'.cell? ⟨bo, 0, none⟩ = some (.string s) ∧ Below W.heap.size W W')
      (first
        | exact ⟨nm_cell_at HB0.out.drew x3, nm_cell_at HB0.out.drew ho, HB0.out.drew⟩
        | exact ⟨nm_cell_at HBQ.out x3, nm_cell_at HBQ.out ho, HBQ.out⟩
        | go_keep)
      ((go_at_call 40; obtain ⟨_, _, hq⟩ := ‹_ ∧ _ ∧ Below W.heap.size W _›; refine (HAT.out _ hq).mono ?_; rintro e w1 ⟨rfl, hcl⟩; have HBQ := Lib.hid (hq.trans (hcl.mono hq.size)); clear hcl hq))
    all_goals
      obtain ⟨hR, hH, hok, hgok, hS, hx⟩ := HH.out
      have z3 := nm_cell_at HBQ.out x3
      have hR1 := Kd.R_below hR HBQ.out
      have HD := Lib.hid (delete_tox g m c k B oki x.f3 w1 hR1 (by have := HM.out; omega) (by omega))
      have w3 : w1.frozen? ⟨b, i * 4 + 3, none⟩ = false := (HBQ.out.frozen (p := ⟨b, i * 4 + 3, none⟩) hbw).trans y3
      have hb1 : b < w1.heap.size := by have := HBQ.out.size; omega
      clear hR hH hok hgok hS hx hR1
      go_wp2_with (go_at_call 52; refine HD.out.mono ?_; rintro e w2 ⟨rfl, hR2, hg2⟩; have HR2 := Lib.hid hR2; have HG2 := Lib.hid hg2; have u3 : w2.cell? ⟨b, i * 4 + 3, none⟩ = some (.slice (some ⟨g, 0, none⟩) (m + 1) c) := (World.cell?_of_block (hg2.block b hb1 (fun he => hgb (by injection he with he; exact he.symm)))).trans z3; have v3 : w2.frozen? ⟨b, i * 4 + 3, none⟩ = false := (World.frozen?_of_block (hg2.block b hb1 (fun he => hgb (by injection he with he; exact he.symm)))).trans w3; clear hR2 hg2)
      go_ret
      obtain ⟨hR, hH, hok, hgok, hS, hx⟩ := HH.out
      have hH2 := Kd.H_grown (Kd.H_below hH HBQ.out) HG2.out (fun k hk => by injection hk with hk; rw [← hk]; exact hgok)
      have hml : m = (x.f3.eraseIdx k).length := by rw [List.length_eraseIdx]; have := HM.out; split <;> omega
      obtain ⟨hSS, hgg⟩ := hole_set (y := ⟨x.f0, x.f1, x.f2, x.f3.eraseIdx k⟩) hH2 hin rfl HR2.out
      refine ⟨rfl, ?_, ?_⟩
      · exact hSS
      · have hb2 : Below B W w1 := HBQ.out.mono hB
        have hb3 := hb2.grown HG2.out (by have := HBQ.out.size; omega) (fun k hk => by injection hk with hk; omega)
        exact hb3.setCell hBb _
theorem step_add {ops : Array Oper} {o : Oper} {a : Act} {W : World} {Kc : Act → World → Prop} {Q : Exit → Act → World → Prop} (hgd : o.guard = none) (s x : Operand)
    (ho : o.op = .call { callee := .builtin .append, args := #[s, x], argTypes := #[37, 37] }) (v : Value) (base : Nat) (ok : Nat → Prop) (xs : List S24) (t : S24)
    (HO : Hid (RT W base ok v xs)) (hbase : base ≤ W.heap.size) (hfresh : ∀ k, W.heap.size ≤ k → ok k) (hl : xs.length ≤ 1000000)
    (hs : a.eval s = v) (hx : a.eval x = .slice (some ⟨W.heap.size, 0, none⟩) 1 1)
    (h : ∀ A1 c1 w1, Hid (RT w1 base ok (.slice A1 (xs ++ [t]).length c1) (xs ++ [t])) → Hid (W.grownBy w1 v.ownBlock) → Kc (a.put o.dst (.slice A1 (xs ++ [t]).length c1)) w1) :
    if Region.wanted o (yielded ops a.tmps) = true then Oper.wp Tryz.prog o a (W.alloc (.cells #[.string t.f0, .int .i64 t.f1, .bool t.f2, .int .i64 t.f3, .int .i64 t.f4, .int .i64 t.f5] 24)) Kc Q else Kc (a.put o.dst undef) (W.alloc (.cells #[.string t.f0, .int .i64 t.f1, .bool t.f2, .int .i64 t.f3, .int .i64 t.f4, .int .i64 t.f5] 24)) :=
  Kd.R_append_step (w0 := W) k24 base (by simp [Region.wanted, hgd]) s x 37 24 _ 56 ho Tryz.underlying37 info_tox rfl (by decide) (by decide) v xs t [.string t.f0, .int .i64 t.f1, .bool t.f2, .int .i64 t.f3, .int .i64 t.f4, .int .i64 t.f5] ok (fun _ => False) hs hx
    (k24_mkM _ _ _ _) (fun _ h => h.elim) hfresh HO.out (Below.refl base W) hbase (by omega) (fun v1 w1 hR _ hg _ => by
      obtain ⟨A1, c1, rfl⟩ := Kd.R_slice hR
      exact h A1 c1 w1 (Lib.hid hR) (Lib.hid hg))
set_option maxRecDepth 100000 in
set_option maxHeartbeats 2000000 in
theorem addtoxic_clo {W : World} {B b n cap i bo : Nat} {xs : List S39} {x : S39} (t : S24) (hB : B ≤ W.heap.size) (h : SP W B b n cap xs) (hx : xs[i]? = some x) (h8 : x.f3.length ≤ 1000000)
    (o0 : W.cell? ⟨bo, 0, none⟩ = some (.string t.f0)) (o1 : W.cell? ⟨bo, 1, none⟩ = some (.int .i64 t.f1)) (o2 : W.cell? ⟨bo, 2, none⟩ = some (.bool t.f2)) (o3 : W.cell? ⟨bo, 3, none⟩ = some (.int .i64 t.f3)) (o4 : W.cell? ⟨bo, 4, none⟩ = some (.int .i64 t.f4)) (o5 : W.cell? ⟨bo, 5, none⟩ = some (.int .i64 t.f5)) :
    Calls Tryz.prog 38 #[.pointer (some ⟨b, i * 4, none⟩), .pointer (some ⟨bo, 0, none⟩)] W (CloP B b n cap xs i (addT t x) W) := by
  obtain ⟨hBb, hbw⟩ := SP_b h
  obtain ⟨oki, A, c, hR, x0, x1, x2, x3, hfr, hok, hH⟩ := elemP h hx
  have y3 := hfr 3
  have HAT := Lib.hid (fun W' (hb : Below W.heap.size W W') => names_at_api_Toxic.calls A c x.f3 t.f0 _ W' (Kd.C_below (Kd.R_reads' hR).2.2 hb) (Kd.R_reads' hR).2.1 rfl)
  have HCK := Lib.hid (fun W' => toxic_Check.calls t.f0 t.f1 t.f2 t.f3 t.f4 t.f5 (ckT t) W' rfl)
  have hpl := place_lt (l := namesT x.f3) (s := t.f0)
  have HN : Hid (∀ W' (r : Int), Below W.heap.size W W' → CloP B b n cap xs i (x, r) W (.returned (.int .i64 r)) W') := Lib.hid (fun W' r hb => ⟨rfl, by rw [set_self hx]; exact Kd.S_below h hb, hb.mono hB⟩)
  have HP := Lib.hid (show place (x.f3.map (·.f0)) t.f0 = place (namesT x.f3) t.f0 from rfl)
  have hlen : x.f3.length ≤ 1000000 := h8
  have HB0 := Lib.hid (Below.refl W.heap.size W)
  have hin : i < n := by have := (Kd.S_reads' h).1; have := (List.getElem?_eq_some_iff.1 hx).1; omega
  unfold addT
  by_cases hck : ckT t = 0
  · rw [if_neg (by simpa using hck)]
    rw [hck] at HCK
    rw [HP.out] at HAT
    by_cases hpos : 0 ≤ place (namesT x.f3) t.f0
    · rw [if_pos hpos]
      generalize place (namesT x.f3) t.f0 = p at *
      clear hR hok hH hfr h hx HP hck
      go_enter Tryz.func38, Tryz.ntmps38
      go_wp2_with (go_at_call 39; refine (HCK.out _).mono ?_; rintro e w1 ⟨rfl, hcl⟩; have HB1 := Lib.hid hcl; have a0 := nm_cell_at hcl o0; have a3 := nm_cell_at hcl x3; clear hcl)
      go_region_held3 (fun W' => W'.cell? ⟨b, i * 4 + 3, none⟩ = some (.slice A x.f3.length c) ∧ W'.cell? ⟨bo, 0, none⟩ = some (.string t.f0) ∧ Below W.heap.size W W')
        (first
          | exact ⟨a3, a0, HB1.out.drew⟩
          | exact ⟨nm_cell_at HBQ.out x3, nm_cell_at HBQ.out o0, HBQ.out⟩
          | go_keep)
        ((go_at_call 40; obtain ⟨_, _, hq⟩ := ‹_ ∧ _ ∧ Below W.heap.size W _›; refine (HAT.out _ hq).mono ?_; rintro e w2 ⟨rfl, hcl⟩; have HBQ := Lib.hid (hq.trans (hcl.mono hq.size)); clear hcl hq))
      all_goals
        go_wp2_with fail
        go_ret
        exact HN.out _ _ HBQ.out
    · rw [if_neg hpos]
      have q0 : ¬ (0 ≤ place (namesT x.f3) t.f0) := hpos
      generalize place (namesT x.f3) t.f0 = p at *
      by_cases hfull : 8 ≤ x.f3.length
      · rw [if_pos hfull]
        have q1 : (8 : Int) ≤ (x.f3.length : Int) := by omega
        clear hR hok hH hfr h hx HP hck hpos
        go_enter Tryz.func38, Tryz.ntmps38
        go_wp2_with (go_at_call 39; refine (HCK.out _).mono ?_; rintro e w1 ⟨rfl, hcl⟩; have HB1 := Lib.hid hcl; have a0 := nm_cell_at hcl o0; have a3 := nm_cell_at hcl x3; clear hcl)
        go_region_held3 (fun W' => W'.cell? ⟨b, i * 4 + 3, none⟩ = some (.slice A x.f3.length c) ∧ W'.cell? ⟨bo, 0, none⟩ = some (.string t.f0) ∧ Below W.heap.size W W')
          (first
            | exact ⟨a3, a0, HB1.out.drew⟩
            | exact ⟨nm_cell_at HBQ.out x3, nm_cell_at HBQ.out o0, HBQ.out⟩
            | go_keep)
          ((go_at_call 40; obtain ⟨_, _, hq⟩ := ‹_ ∧ _ ∧ Below W.heap.size W _›; refine (HAT.out _ hq).mono ?_; rintro e w2 ⟨rfl, hcl⟩; have HBQ := Lib.hid (hq.trans (hcl.mono hq.size)); clear hcl hq))
        all_goals
          have z3 := nm_cell_at HBQ.out x3
          go_wp2_with fail
          go_ret
          exact HN.out _ _ HBQ.out
      · rw [if_neg hfull]
        have q1 : ¬ ((8 : Int) ≤ (x.f3.length : Int)) := by omega
        have HH := Lib.hid (And.intro hR (And.intro hH hok))
        have HFR := Lib.hid (hfr 3)
        clear hR hok hH hfr h hx HP hck hpos
        go_enter Tryz.func38, Tryz.ntmps38
        go_wp2_with (go_at_call 39; refine (HCK.out _).mono ?_; rintro e w1 ⟨rfl, hcl⟩; have HB1 := Lib.hid hcl; have a0 := nm_cell_at hcl o0; have a3 := nm_cell_at hcl x3; clear hcl)
        go_region_held3 (fun W' => W'.cell? ⟨b, i * 4 + 3, none⟩ = some (.slice A x.f3.length c) ∧ W'.cell? ⟨bo, 0, none⟩ = some (.string t.f0) ∧ Below W.heap.size W W')
          (first
            | exact ⟨a3, a0, HB1.out.drew⟩
            | exact ⟨nm_cell_at HBQ.out x3, nm_cell_at HBQ.out o0, HBQ.out⟩
            | go_keep)
          ((go_at_call 40; obtain ⟨_, _, hq⟩ := ‹_ ∧ _ ∧ Below W.heap.size W _›; refine (HAT.out _ hq).mono ?_; rintro e w2 ⟨rfl, hcl⟩; have HBQ := Lib.hid (hq.trans (hcl.mono hq.size)); clear hcl hq))
        all_goals
          have z3 := nm_cell_at HBQ.out x3
          have s0 := nm_cell_at HBQ.out o0
          have s1 := nm_cell_at HBQ.out o1
          have s2 := nm_cell_at HBQ.out o2
          have s3 := nm_cell_at HBQ.out o3
          have s4 := nm_cell_at HBQ.out o4
          have s5 := nm_cell_at HBQ.out o5
          have hbw2 : b < w2.heap.size := by have := HBQ.out.size; omega
          have w3 : w2.frozen? ⟨b, i * 4 + 3, none⟩ = false := (HBQ.out.frozen (p := ⟨b, i * 4 + 3, none⟩) hbw).trans HFR.out
          go_wp2_with fail
          obtain ⟨hR, hH, hok⟩ := HH.out
          have hne : some b ≠ (Value.slice A x.f3.length c).ownBlock := fun he => hok b (hR.1 b he.symm) rfl
          have HNE := Lib.hid hne
          have HRD : Hid (RT w2.drew B (fun k => oki k ∨ True ∧ w2.heap.size ≤ k) (.slice A x.f3.length c) x.f3) := Lib.hid (Kd.R_drew (Kd.R_mono (Kd.R_below hR HBQ.out) (fun k hk => .inl hk)))
          have HHW := Lib.hid (Kd.H_drew (Kd.H_widen (Kd.H_below hH HBQ.out)))
          have hBs : B ≤ w2.drew.heap.size := by show B ≤ w2.heap.size; omega
          clear hR hH hok hne
          go_region_law (refine step_add rfl (.tmp 31) (.tmp 33) rfl (.slice A x.f3.length c) B (fun k => oki k ∨ True ∧ w2.heap.size ≤ k) x.f3 t HRD hBs (fun k hk => .inr ⟨trivial, hk⟩) hlen rfl rfl ?_; intro A1 c1 w4 HR4 HG4; have u3 : w4.cell? ⟨b, i * 4 + 3, none⟩ = some (.slice A x.f3.length c) := (World.cell?_of_block (HG4.out.block b hbw2 HNE.out)).trans z3; have v3 : w4.frozen? ⟨b, i * 4 + 3, none⟩ = false := (World.frozen?_of_block (HG4.out.block b hbw2 HNE.out)).trans w3)
          all_goals
            go_wp2_with fail
            go_ret
            have hH2 := Kd.H_grown HHW.out HG4.out (fun k hk => HRD.out.1 k hk)
            obtain ⟨hSS, hgg⟩ := hole_set (y := ⟨x.f0, x.f1, x.f2, x.f3 ++ [t]⟩) hH2 hin rfl HR4.out
            rw [show (x.f3 ++ [t]).length = x.f3.length + 1 by simp] at hSS
            refine ⟨rfl, hSS, ?_⟩
            have hb2 : Below B W w2.drew := (HBQ.out.mono hB).drew
            have hb3 := hb2.grown HG4.out hBs (fun k hk => Kd.R_base HRD.out k hk)
            exact hb3.setCell hBb _
  · rw [if_pos (by simpa using hck)]
    have q : ((ckT t) != 0) = true := by simpa using hck
    generalize ckT t = e at *
    clear hR hok hH hfr h hx HP hck
    go_enter Tryz.func38, Tryz.ntmps38
    go_wp2_with (go_at_call 39; refine (HCK.out _).mono ?_; rintro e w1 ⟨rfl, hcl⟩; have HB1 := Lib.hid hcl; clear hcl)
    go_ret
    exact HN.out _ _ HB1.out
end Go.Proofs.YtlglbpjccpdloaaGreat.Ext
set_option linter.unusedVariables false
set_option linter.unusedSimpArgs false
namespace Go.Proofs.YtlglbpjccpdloaaGreat.Ext
open Go.RowKit Go.Proofs.YtlglbpjccpdloaaGreat.PNamA Go.Proofs.YtlglbpjccpdloaaGreat.Tox Go.Proofs.YtlglbpjccpdloaaGreat.ToxZ Go.Proofs.YtlglbpjccpdloaaGreatW.PrintWords Go.Proofs.YtlglbpjccpdloaaGreatW.PrintLast
def changeOf (T : S39 → PT) (l : List S39) (s : ByteArray) : List S39 × Int :=
  if rightB l then (if place (namesP l) s < 0 then (l, 142) else (l.set (place (namesP l) s).toNat (T (l.getD (place (namesP l) s).toNat z39)).1, (T (l.getD (place (namesP l) s).toNat z39)).2)) else ([], 1)
theorem right_len {l : List S39} (h : rightB l = true) : l.length ≤ 8 ∧ ∀ x ∈ l, chkP x = 0 := by
  unfold rightB at h
  simp only [Bool.and_eq_true, decide_eq_true_eq, List.all_eq_true, beq_iff_eq] at h
  exact ⟨h.2, h.1.1⟩
theorem chk_len {x : S39} (h : chkP x = 0) : x.f3.length ≤ 8 := by
  unfold chkP at h
  split at h
  · split at h
    · split at h
      · cases h
      · omega
    · cases h
  · cases h
theorem right_small {l : List S39} (h : rightB l = true) : smallP l = true := by
  obtain ⟨h1, h2⟩ := right_len h
  simp only [smallP, Bool.and_eq_true, decide_eq_true_eq, List.all_eq_true]
  exact ⟨by omega, fun x hx => by have := chk_len (h2 x hx); omega⟩
def CloOk (F : Nat) (lb : Array Value) (T : S39 → PT) (w : World) : Prop :=
  ∀ (W : World) (b n cap i : Nat) (xs : List S39) (x : S39), Below w.heap.size w W → SP W w.heap.size b n cap xs → xs[i]? = some x → x.f3.length ≤ 1000000 →
    Calls Tryz.prog F (#[.pointer (some ⟨b, i * 4, none⟩)] ++ lb) W (CloP w.heap.size b n cap xs i (T x) W)
def ChP (w : World) (r : List S39 × Int) (e : Ending) (w' : World) : Prop :=
  ∃ v : Value, e = .returned (.tuple #[v, .int .i64 r.2]) ∧ Kd.S k39 39 w' w.heap.size (fun _ => True) v r.1 ∧ Below w.heap.size w w'
set_option maxRecDepth 100000 in
set_option maxHeartbeats 1000000 in
theorem change_any (F : Nat) (lb : Array Value) (T : S39 → PT) (A0 : Option Addr) (c0 : Nat) (l0 : List S39) (s : ByteArray) (w : World) (hr0 : Kd.C k39 w A0 l0.length l0) (hc0 : l0.length ≤ c0) (hm : l0.length ≤ 4611686018427387904)
    (eF : ∀ args w, (callFunc F args).run Tryz.prog w = .ok (.enter F args) w) (hclo : CloOk F lb T w) :
    Calls Tryz.prog 37 #[.slice A0 l0.length c0, .string s, .func (.func F) #[] lb] w (ChP w (changeOf T l0 s)) := by
  have HRI := Lib.hid (right_calls A0 c0 l0 w hr0 hc0 hm)
  unfold changeOf
  cases hright : rightB l0
  · rw [hright] at HRI
    rw [if_neg (by simp)]
    generalize l0.length = n at *
    clear hr0 hc0 hclo
    go_enter Tryz.func37, Tryz.ntmps37
    go_wp2_with (go_at_call 13; refine HRI.out.mono ?_; rintro e w1 ⟨rfl, hb⟩; have HB1 := Lib.hid hb; clear hb)
    go_ret2
    exact ⟨_, rfl, Kd.S_nil _ _ _ _ _, HB1.out⟩
  · rw [hright] at HRI
    rw [if_pos rfl]
    have hsm := right_small hright
    have HO := Lib.hid (fun W (hb : Below w.heap.size w W) => names_own.calls A0 c0 l0 l0 W (Kd.C_below hr0 hb) hc0 (by rw [names_own.f, if_pos hsm]))
    have HAT := Lib.hid (fun W A c (hC : Kd.C k39 W A l0.length l0) (hc : l0.length ≤ c) => names_at_api_Proxy.calls A c l0 s _ W hC hc rfl)
    have hpl := place_lt (l := namesP l0) (s := s)
    have HP := Lib.hid (show place (l0.map (·.f0)) s = place (namesP l0) s from rfl)
    rw [HP.out] at HAT
    obtain ⟨hl8, hall⟩ := right_len hright
    by_cases hneg : place (namesP l0) s < 0
    · rw [if_pos hneg]
      generalize place (namesP l0) s = p at *
      generalize hn : l0.length = n at *
      have HN := Lib.hid hn
      clear hr0 hc0 hclo hsm hall hn hright HP
      go_enter Tryz.func37, Tryz.ntmps37
      go_wp2_with (first
        | (go_at_call 13; refine HRI.out.mono ?_; rintro e w1 ⟨rfl, hb⟩; have HB1 := Lib.hid hb; clear hb)
        | (go_at_call 30; refine (HO.out _ HB1.out).mono ?_; rintro e w2 ⟨v, rfl, hS, hb⟩; obtain ⟨A, c, hv⟩ := Kd.S_slice hS; rw [HN.out] at hv; subst hv; have HS := Lib.hid hS; have HB2 := Lib.hid (HB1.out.trans (hb.mono HB1.out.size)); have HBB := Lib.hid hb; clear hS hb)
        | (go_at_call 31; refine (HAT.out _ A c (by have := (Kd.S_reads' HS.out).2.2; rwa [HN.out] at this) (Kd.S_reads' HS.out).2.1).mono ?_; rintro e w3 ⟨rfl, hb⟩; have HB3 := Lib.hid hb; clear hb)
        | fail)
      go_ret2
      exact ⟨_, rfl, Kd.S_lower (Kd.S_below HS.out HB3.out) HB1.out.size, HB2.out.trans (HB3.out.mono HB2.out.size)⟩
    · rw [if_neg hneg]
      obtain ⟨k, hk⟩ : ∃ k : Nat, place (namesP l0) s = (k : Int) := ⟨(place (namesP l0) s).toNat, by omega⟩
      rw [hk] at HAT hpl ⊢
      rw [Int.toNat_natCast]
      have hkl : k < l0.length := by have := hpl.1; simp [namesP] at this; exact this
      have hx : l0[k]? = some l0[k] := List.getElem?_eq_getElem hkl
      have hgd : l0.getD k z39 = l0[k] := by rw [List.getD_eq_getElem?_getD, hx]; rfl
      rw [hgd]
      have hx8 : l0[k].f3.length ≤ 1000000 := by have := chk_len (hall l0[k] (List.getElem_mem hkl)); omega
      have hpos : 0 < l0.length := by omega
      have HCL := Lib.hid (fun W b cap (hb : Below w.heap.size w W) (hS : SP W w.heap.size b l0.length cap l0) => hclo W b l0.length cap k l0 l0[k] hb hS hx hx8)
      have HPOS := Lib.hid hpos
      have q0 : ¬ ((k : Int) < 0) := by omega
      have hk0 : (0 : Int) ≤ (k : Int) := Int.natCast_nonneg _
      have hk1 : (k : Int) < (l0.length : Int) := by omega
      generalize T l0[k] = y at *
      clear hx hgd hx8 hkl hclo hall hr0 hc0
      generalize hn : l0.length = n at *
      have HN := Lib.hid hn
      clear hsm hn hright HP hpos hneg hk hpl
      go_enter Tryz.func37, Tryz.ntmps37
      go_wp2_with (first
        | (go_at_call 13; refine HRI.out.mono ?_; rintro e w1 ⟨rfl, hb⟩; have HB1 := Lib.hid hb; clear hb)
        | (go_at_call 30; refine (HO.out _ HB1.out).mono ?_; rintro e w2 ⟨v, rfl, hS, hb⟩; obtain ⟨b, c, hv, _⟩ := Kd.S_form hS (by rw [HN.out]; exact HPOS.out); rw [HN.out] at hv; subst hv; have HS := Lib.hid hS; have HB2 := Lib.hid (HB1.out.trans (hb.mono HB1.out.size)); clear hS hb)
        | (go_at_call 31; refine (HAT.out _ _ c (by have := (Kd.S_reads' HS.out).2.2; rwa [HN.out] at this) (Kd.S_reads' HS.out).2.1).mono ?_; rintro e w3 ⟨rfl, hb⟩; have HS3 : Hid (SP w3 w.heap.size b n c l0) := Lib.hid (Kd.S_lower (Kd.S_below HS.out hb) HB1.out.size); have HB3 := Lib.hid (HB2.out.trans (hb.mono HB2.out.size)); clear hb)
        | (go_at_fn F; refine (HCL.out _ b c HB3.out HS3.out).mono ?_; rintro e w4 ⟨rfl, hS4, hb⟩; have HS4 := Lib.hid hS4; have HB4 := Lib.hid (HB3.out.trans hb); clear hS4 hb)
        | fail)
      go_ret2
      exact ⟨_, rfl, HS4.out, HB4.out⟩
end Go.Proofs.YtlglbpjccpdloaaGreat.Ext
set_option linter.unusedVariables false
set_option linter.unusedSimpArgs false
namespace Go.Proofs.YtlglbpjccpdloaaGreat.Ext
open Go.RowKit Go.Shelf Go.Proofs.YtlglbpjccpdloaaGreat.PNamA Go.Proofs.YtlglbpjccpdloaaGreat.Tox Go.Proofs.YtlglbpjccpdloaaGreat.ToxZ Go.Proofs.YtlglbpjccpdloaaGreatW.PrintWords Go.Proofs.YtlglbpjccpdloaaGreatW.PrintLast
theorem raw_of_S {α : Type} {d : Kd α} {e base : Nat} {w : World} {ok : Nat → Prop} {v : Value} {xs : List α} (h : Kd.S d e w base ok v xs) :
    ∃ (rows : List (List Value)) (okj : Nat → Nat → Prop), (Kd.raw d.sz).R e w base (fun _ => True) v rows ∧ rows.length = xs.length ∧ (∀ i j k, okj i k → okj j k → i = j) ∧ (∀ j k, okj j k → ok k ∧ some k ≠ v.ownBlock) ∧ (∀ (j : Nat) x row, xs[j]? = some x → rows[j]? = some row → d.M w base (okj j) x row) := by
  obtain ⟨f, h0, inner, ho, hr⟩ := h
  have hlen : inner.length = xs.length * d.sz := by have := hr.1; rw [List.length_zipIdx] at this; exact this
  rw [List.length_zipIdx] at ho
  have hM : ∀ (j : Nat) x, xs[j]? = some x → d.M w base (fun k => (ok k ∧ some k ≠ v.ownBlock) ∧ f k = j) x ((inner.drop (j * d.sz)).take d.sz) := fun j x hx => hr.2 j (x, j) (Kd.zip_at hx)
  have hat : ∀ (j : Nat) row, ((List.range xs.length).map fun j => (inner.drop (j * d.sz)).take d.sz)[j]? = some row → j < xs.length ∧ row = (inner.drop (j * d.sz)).take d.sz := by
    intro j row hj
    rw [List.getElem?_map] at hj
    obtain ⟨j', hj', rfl⟩ := Option.map_eq_some_iff.1 hj
    obtain ⟨hl', he⟩ := List.getElem?_eq_some_iff.1 hj'
    rw [List.getElem_range] at he
    subst he
    exact ⟨by simpa using hl', rfl⟩
  refine ⟨(List.range xs.length).map fun j => (inner.drop (j * d.sz)).take d.sz, fun j k => (ok k ∧ some k ≠ v.ownBlock) ∧ f k = j, ⟨fun _ _ => trivial, inner, by rw [List.length_map, List.length_range]; exact ho, by rw [List.length_map, List.length_range]; exact hlen, fun j p hj => ?_⟩, by simp, fun i j k h1 h2 => h1.2.symm.trans h2.2, fun j k h => h.1, fun j x row hx hj => ?_⟩
  · obtain ⟨hl, rfl⟩ := hat j p hj
    have hm := d.K_of_M (hM j _ (List.getElem?_eq_getElem hl))
    exact ⟨rfl, d.K_len hm, d.K_one hm⟩
  · obtain ⟨hl, rfl⟩ := hat j row hj
    exact hM j x hx
def srcI (k j p : Nat) : Nat := if p < k then p else if p + 1 < j then p + 1 else p
def DelI (w : World) (B b n cap k : Nat) (xs : List S39) (j : Nat) (wr : World) : Prop :=
  ∃ (rows : List (List Value)) (okj : Nat → Nat → Prop), (Kd.raw 4).R 39 wr B (fun _ => True) (.slice (some ⟨b, 0, none⟩) n cap) rows ∧ rows.length = xs.length ∧ (∀ i j k, okj i k → okj j k → i = j) ∧ (∀ j a, okj j a → a ≠ b) ∧
    (∀ (p : Nat) x row, xs[srcI k j p]? = some x → rows[p]? = some row → k39.M wr B (okj (srcI k j p)) x row) ∧ Below B w wr ∧ w.heap.size ≤ wr.heap.size
theorem del_start {w : World} {B b n cap k : Nat} {xs : List S39} (h : SP w B b n cap xs) : DelI w B b n cap k xs (k + 1) w := by
  obtain ⟨rows, okj, h1, h2, h3, h4, h5⟩ := raw_of_S h
  have hs : ∀ p, srcI k (k + 1) p = p := fun p => by unfold srcI; split <;> (try split) <;> omega
  exact ⟨rows, okj, h1, h2, h3, fun j a ha he => (h4 j a ha).2 (by rw [he]; simp [Value.ownBlock]), fun p x row hx hr => by rw [hs] at hx ⊢; exact h5 p x row hx hr, Below.refl _ _, Nat.le_refl _⟩
theorem del_row {w wr : World} {B b n cap k j : Nat} {xs : List S39} {x : S39} (h : DelI w B b n cap k xs j wr) (hkj : k < j) (hx : xs[j]? = some x) :
    ∃ A c, wr.cell? ⟨b, j * 4, none⟩ = some (.string x.f0) ∧ wr.cell? ⟨b, j * 4 + 1, none⟩ = some (.bool x.f1) ∧ wr.cell? ⟨b, j * 4 + 2, none⟩ = some (.int .i64 x.f2) ∧ wr.cell? ⟨b, j * 4 + 3, none⟩ = some (.slice A x.f3.length c) ∧
      (∀ i, wr.frozen? ⟨b, i, none⟩ = false) ∧ (∀ i, i < n * 4 → (wr.cell? ⟨b, i, none⟩).isSome = true) ∧ j < n ∧
      ∀ W, Below wr.heap.size wr W → DelI w B b n cap k xs (j + 1) ((((W.setCell ⟨b, (j - 1) * 4, none⟩ (.string x.f0)).setCell ⟨b, (j - 1) * 4 + 1, none⟩ (.bool x.f1)).setCell ⟨b, (j - 1) * 4 + 2, none⟩ (.int .i64 x.f2)).setCell ⟨b, (j - 1) * 4 + 3, none⟩ (.slice A x.f3.length c)) := by
  obtain ⟨rows, okj, hraw, hlen, hap, hok, hM, hB, hsz⟩ := h
  have hn := (Kd.R_reads' hraw).1
  have hnc := (Kd.R_reads' hraw).2.1
  have hjl : j < xs.length := (List.getElem?_eq_some_iff.1 hx).1
  have hjr : j < rows.length := by omega
  have hrow : rows[j]? = some rows[j] := List.getElem?_eq_getElem hjr
  have hsj : srcI k j j = j := by unfold srcI; split <;> (try split) <;> omega
  have hMj := hM j x rows[j] (by rw [hsj]; exact hx) hrow
  rw [hsj] at hMj
  obtain ⟨cc, hcl, hcM, hcc, hcf⟩ := Kd.R_elem hraw [] (j : Int) (by omega) (by omega)
  have hck : cc = rows[j] := by
    have := hcM.1
    rwa [Int.toNat_natCast, List.getD_eq_getElem?_getD, hrow] at this
  obtain ⟨v3, hopen, hR3⟩ := k39_openM hMj
  obtain ⟨A, c, hv⟩ := Kd.R_slice hR3
  subst hv
  rw [hck, hopen] at hcc
  have hBb : B ≤ b := Kd.R_base hraw b (by simp [Value.ownBlock])
  refine ⟨A, c, hcc 0 _ rfl, hcc 1 _ rfl, hcc 2 _ rfl, hcc 3 _ rfl, fun i => ?_, fun i hi => (R_cells hraw i (by show i < cap * 4; omega)).1, by omega, fun W hW => ?_⟩
  · by_cases hi : i < cap * 4
    · exact (R_cells hraw i hi).2
    · obtain ⟨_, _, ho, _⟩ := hraw
      rcases ho.2 with ⟨hv, _⟩ | ⟨g', cap', cur, hv, _, hh, _⟩
      · cases hv
      · injection hv with ha _ _
        injection ha with ha
        injection ha with hg
        subst hg
        simp [World.frozen?, hh]
  · have hraw2 := Kd.R_below hraw hW
    have hj1 : j - 1 < rows.length := by omega
    obtain ⟨c2, hcl2, hcM2, hcc2, _⟩ := Kd.R_elem hraw2 [] ((j - 1 : Nat) : Int) (by omega) (by omega)
    have hone := (k39.K_one (k39.K_of_M hMj))
    have hll := (k39.K_len (k39.K_of_M hMj))
    obtain ⟨hseg, hgrow⟩ := Kd.R_seg (okp := fun _ => False) hraw2 ((j - 1 : Nat) : Int) (by omega) (by omega) (c := c2) (seg := rows[j]) (j := 0) (x' := rows[j]) hcl2 hcc2 (by rw [hll]; exact Nat.le_refl _)
      (by
        have e : c2.take 0 ++ rows[j] ++ c2.drop (0 + rows[j].length) = rows[j] := by
          rw [List.take_zero, List.nil_append, Nat.zero_add, List.drop_eq_nil_of_le (by rw [hcl2, hll]; exact Nat.le_refl _), List.append_nil]
        rw [e]
        exact ⟨rfl, hll, hone⟩) (fun _ h => h.elim)
    rw [hopen, Int.toNat_natCast] at hseg hgrow
    have hset : W.setCells b ((j - 1) * (Kd.raw 4).sz + 0) [.string x.f0, .bool x.f1, .int .i64 x.f2, .slice A x.f3.length c] = ((((W.setCell ⟨b, (j - 1) * 4, none⟩ (.string x.f0)).setCell ⟨b, (j - 1) * 4 + 1, none⟩ (.bool x.f1)).setCell ⟨b, (j - 1) * 4 + 2, none⟩ (.int .i64 x.f2)).setCell ⟨b, (j - 1) * 4 + 3, none⟩ (.slice A x.f3.length c)) := rfl
    rw [hset] at hseg hgrow
    generalize ((((W.setCell ⟨b, (j - 1) * 4, none⟩ (.string x.f0)).setCell ⟨b, (j - 1) * 4 + 1, none⟩ (.bool x.f1)).setCell ⟨b, (j - 1) * 4 + 2, none⟩ (.int .i64 x.f2)).setCell ⟨b, (j - 1) * 4 + 3, none⟩ (.slice A x.f3.length c)) = W2 at hseg hgrow ⊢
    have hmv : ∀ q y row', k39.M wr B (okj q) y row' → k39.M W2 B (okj q) y row' := fun q y row' hy => Kd.M_grown (Kd.M_below hy hW) hgrow (fun a ha he => hok q a ha (by injection he))
    refine ⟨rows.set (j - 1) [.string x.f0, .bool x.f1, .int .i64 x.f2, .slice A x.f3.length c], okj, hseg, by rw [List.length_set]; exact hlen, hap, hok, fun p y row hy hr => ?_, ?_, ?_⟩
    · by_cases hp : p = j - 1
      · subst hp
        rw [List.getElem?_set_self hj1] at hr
        injection hr with hr
        have hs : srcI k (j + 1) (j - 1) = j := by unfold srcI; split <;> (try split) <;> omega
        rw [hs] at hy ⊢
        rw [hx] at hy
        injection hy with hy
        subst hr hy
        rw [← hopen]
        exact hmv j x _ hMj
      · rw [List.getElem?_set_ne (fun h => hp h.symm)] at hr
        have hs : srcI k (j + 1) p = srcI k j p := by unfold srcI; split <;> (try split) <;> (try split) <;> omega
        rw [hs] at hy ⊢
        exact hmv _ y row (hM p y row hy hr)
    · have hw : B ≤ wr.heap.size := by have := Kd.R_lt hraw b (by simp [Value.ownBlock]); omega
      exact (hB.trans (hW.mono hw)).grown hgrow (by have := hW.size; omega) (fun a ha => by injection ha with ha; omega)
    · have := hW.size
      have := hgrow.size
      omega
theorem zero_prox (w : World) : (zeroValue 39).run Tryz.prog w = .ok (.agg #[.string ⟨#[]⟩, .bool false, .int .i64 0, .slice none 0 0]) w := by kernel_rfl
theorem del_end {w wr : World} {B b m cap k : Nat} {xs : List S39} (h : DelI w B b (m + 1) cap k xs (m + 1) wr) (hk : k < m + 1) :
    (∀ j, j < 4 → (wr.cell? ⟨b, m * 4 + j, none⟩).isSome = true ∧ wr.frozen? ⟨b, m * 4 + j, none⟩ = false) ∧
    SP (wr.setCells b (m * 4) [.string ⟨#[]⟩, .bool false, .int .i64 0, .slice none 0 0]) B b m cap (xs.eraseIdx k) ∧ Below B w (wr.setCells b (m * 4) [.string ⟨#[]⟩, .bool false, .int .i64 0, .slice none 0 0]) := by
  obtain ⟨rows, okj, hraw, hlen, hap, hok, hM, hB, hsz⟩ := h
  have hn := (Kd.R_reads' hraw).1
  have hnc := (Kd.R_reads' hraw).2.1
  have hBb : B ≤ b := Kd.R_base hraw b (by simp [Value.ownBlock])
  have hbw : b < wr.heap.size := Kd.R_lt hraw b (by simp [Value.ownBlock])
  refine ⟨fun j hj => R_cells hraw _ (by show m * 4 + j < cap * 4; omega), ?_⟩
  have ht := Kd.R_take hraw (m := m) (by omega)
  obtain ⟨h1, hg⟩ := R_beyond (zs := [.string ⟨#[]⟩, .bool false, .int .i64 0, .slice none 0 0]) (o := m * 4) ht (Nat.le_refl _) (by show m * 4 + 4 ≤ cap * 4; omega)
  refine ⟨S_of_raw (d := k39) h1 (by rw [List.length_take, List.length_eraseIdx]; split <;> omega) (fun j a => okj (if j < k then j else j + 1) a) (fun i j a h1 h2 => ?_) (fun j a h => ⟨trivial, fun he => hok _ a h (by simpa [Value.ownBlock] using he)⟩) (fun _ _ => trivial) (fun j x row hx hr => ?_), hB.grown hg (by omega) (fun a ha => by injection ha with ha; omega)⟩
  · have := hap _ _ _ h1 h2
    split at this <;> split at this <;> omega
  · have hjm : j < m := by
      have := (List.getElem?_eq_some_iff.1 hr).1
      rw [List.length_take] at this
      omega
    rw [List.getElem?_take_of_lt hjm] at hr
    rw [List.getElem?_eraseIdx] at hx
    have hs : srcI k (m + 1) j = if j < k then j else j + 1 := by unfold srcI; split <;> (try split) <;> omega
    have h2 := hM j x row (by rw [hs]; split <;> rename_i hjk <;> simp only [hjk, if_true, if_false] at hx <;> exact hx) hr
    rw [hs] at h2
    exact Kd.M_grown h2 hg (fun a ha he => hok _ a ha (by injection he))
set_option maxRecDepth 100000 in
theorem drop2_clo (x : S39) (A : Option Addr) (n c : Nat) (s : ByteArray) (bn : Nat) (w : World) (hn : w.cell? ⟨bn, 0, none⟩ = some (.string s)) :
    Calls Tryz.prog 46 #[.agg #[.string x.f0, .bool x.f1, .int .i64 x.f2, .slice A n c], .pointer (some ⟨bn, 0, none⟩)] w fun e w' => e = .returned (.bool (decide (x.f0 = s))) ∧ Below w.heap.size w w' := by
  have hq : (x.f0.toList == s.toList) = decide (x.f0 = s) := by
    rw [Bool.eq_iff_iff, beq_iff_eq, decide_eq_true_eq]
    exact nm_toList_eq_iff _ _
  have h1 := nm_cell_at ((Below.refl w.heap.size w).alloc (Nat.le_refl _) (.cells #[.string x.f0, .bool x.f1, .int .i64 x.f2, .slice A n c] 39)) hn
  have HB := Lib.hid ((Below.refl w.heap.size w).alloc (Nat.le_refl _) (.cells #[.string x.f0, .bool x.f1, .int .i64 x.f2, .slice A n c] 39))
  generalize decide (x.f0 = s) = d at *
  go_enter Tryz.func46, Tryz.ntmps46
  go_wp2_with fail
  go_ret
  exact ⟨rfl, HB.out⟩
theorem idx2_calls (A : Option Addr) (c : Nat) (l : List S39) (s : ByteArray) (bn : Nat) (w : World) (hr : Kd.C k39 w A l.length l) (hn : w.cell? ⟨bn, 0, none⟩ = some (.string s)) :
    Calls Tryz.prog 60 #[.slice A l.length c, .func (.func 46) #[] #[.pointer (some ⟨bn, 0, none⟩)]] w fun e w' => e = .returned (.int .i64 (place (namesP l) s)) ∧ Below w.heap.size w w' := by
  have hm : l.length ≤ 9223372036854775807 := hr.2.1
  have HR := Lib.hid hr
  have HN := Lib.hid hn
  obtain ⟨n, hn'⟩ : ∃ n, l.length = n := ⟨_, rfl⟩
  have HL := Lib.hid hn'
  rw [hn'] at hm ⊢
  clear hr hn hn'
  go_enter Tryz.func60, Tryz.ntmps60
  go_wp2_with fail
  go_loopg [5, 8] n (fun gg _ s8 wr => ∃ kk : Nat, kk ≤ n ∧ n - kk ≤ gg ∧ s8 = .int .i64 kk ∧ Hid (Below w.heap.size w wr) ∧ Hid (place (namesP l) s = Lib.idxFromS ((namesP l).drop kk) s kk))
  case atStart => exact ⟨0, Nat.zero_le _, by omega, rfl, Lib.hid (Below.refl _ w), Lib.hid rfl⟩
  case round =>
    obtain ⟨kk, hkk, hg, rfl, BW, HP⟩ := hrel
    by_cases hlt : kk < n
    · have hll : kk < l.length := by rw [HL.out]; exact hlt
      have hR := Kd.C_below HR.out BW.out
      have hd : (namesP l).drop kk = l[kk].f0 :: (namesP l).drop (kk + 1) := by
        rw [namesP, List.drop_eq_getElem_cons (by simpa using hll)]; simp
      have hrd : rd_T39 l (kk : Int) = l[kk] := by simp [rd_T39, hll]
      obtain ⟨ad, A3, c3, rfl, x0, x1, x2, x3, _, _⟩ := at_T39 hR (kk : Int) (by omega) (by omega)
      rw [hrd] at x0 x1 x2 x3
      simp only [Int.toNat_natCast] at x0 x1 x2 x3
      rw [HL.out] at HR
      have hx := HP.out
      rw [hd, Lib.idxFromS] at hx
      have HX := Lib.hid hx
      have HC := Lib.hid (drop2_clo l[kk] A3 l[kk].f3.length c3 s bn wr (nm_cell_at BW.out HN.out))
      clear hR hd hrd hx
      generalize l[kk] = x at *
      have hi0 : (0 : Int) ≤ (kk : Int) := Int.natCast_nonneg _
      have hi1 : (kk : Int) < (n : Int) := by omega
      have hck := HC.out
      by_cases he : x.f0 = s
      · rw [decide_eq_true he] at hck
        have hx := HX.out
        rw [if_pos he] at hx
        have HY := Lib.hid hx
        have HE := Lib.hid he
        have HK := Lib.hid hck
        clear hx he hck
        go_wp2_with (go_at_call 46; refine HK.out.mono ?_; rintro e w1 ⟨rfl, hb'⟩)
        go_ret
        exact ⟨by rw [HY.out]; rfl, BW.out.trans (hb'.mono BW.out.size)⟩
      · rw [decide_eq_false he] at hck
        have hx := HX.out
        rw [if_neg he] at hx
        have HY := Lib.hid hx
        have HE := Lib.hid he
        have HK := Lib.hid hck
        clear hx he hck
        go_wp2_with (go_at_call 46; refine HK.out.mono ?_; rintro e w1 ⟨rfl, hb'⟩)
        go_roundg (n - (kk + 1))
        case measure => omega
        case rel => exact ⟨kk + 1, by omega, by omega, by go_num, Lib.hid (BW.out.trans (hb'.mono BW.out.size)), HY⟩
    · have hk : kk = n := by omega
      subst hk
      have hx := HP.out
      rw [List.drop_eq_nil_of_le (by rw [namesP, List.length_map, HL.out]; exact Nat.le_refl _)] at hx
      have HY := Lib.hid hx
      clear hx
      go_wp2_with fail
      go_ret
      exact ⟨by rw [HY.out]; rfl, BW.out⟩
set_option maxRecDepth 100000 in
set_option maxHeartbeats 2000000 in
theorem delf_calls {w : World} {B b m cap k bn : Nat} {xs : List S39} (s : ByteArray) (hB : B ≤ w.heap.size) (hS : SP w B b (m + 1) cap xs) (hk : place (namesP xs) s = (k : Int)) (hu : ∀ (j : Nat) x, k < j → xs[j]? = some x → x.f0 ≠ s) (hn : w.cell? ⟨bn, 0, none⟩ = some (.string s)) (hbn : bn < B) (hm : m ≤ 1000000) :
    Calls Tryz.prog 45 #[.slice (some ⟨b, 0, none⟩) (m + 1 : Nat) cap, .func (.func 46) #[] #[.pointer (some ⟨bn, 0, none⟩)]] w fun e w' => e = .returned (.slice (some ⟨b, 0, none⟩) m cap) ∧ SP w' B b m cap (xs.eraseIdx k) ∧ Below B w w' := by
  obtain ⟨hxl, hmc, hC⟩ := Kd.S_reads' hS
  have hpl := place_lt (l := namesP xs) (s := s)
  have hkm : k < m + 1 := by have := hpl.1; rw [hk] at this; simp [namesP] at this; omega
  have HI := Lib.hid (idx2_calls (some ⟨b, 0, none⟩) cap xs s bn w (by rw [← hxl] at hC; rw [← hxl]; exact hC) hn)
  rw [hk, ← hxl] at HI
  have HS := Lib.hid hS
  have HU := Lib.hid hu
  have HN := Lib.hid hn
  have HX := Lib.hid hxl
  obtain ⟨n, hnn⟩ : ∃ n, m + 1 = n := ⟨_, rfl⟩
  have HNN := Lib.hid hnn
  rw [hnn] at HI hkm hmc ⊢
  have q0 : ((k : Int) == -1) = false := by rw [beq_eq_false_iff_ne]; omega
  have q1 : IntKind.i64.wrap ((k : Int) + 1) = (k : Int) + 1 := IntWalk.i64_in _ (by omega)
  clear hS hC hpl hk hu hn hxl
  go_enter Tryz.func45, Tryz.ntmps45
  go_wp2_with (go_at_call 60; refine HI.out.mono ?_; rintro e w1 ⟨rfl, hb1⟩; have HB1 := Lib.hid hb1; clear hb1)
  have hI0 : DelI w1 B b n cap k xs (k + 1) w1 := del_start (by have := Kd.S_below HS.out HB1.out; rwa [HNN.out] at this)
  have HI0 := Lib.hid hI0
  clear hI0
  go_loopg [5, 6, 7] n (fun gg s5 s6 _ wr => ∃ i : Nat, k ≤ i ∧ i + 1 ≤ n ∧ n - (i + 1) ≤ gg ∧ s5 = .int .i64 i ∧ s6 = .int .i64 ((i : Int) + 1) ∧ Hid (DelI w1 B b n cap k xs (i + 1) wr))
  case atStart => exact ⟨k, by omega, by omega, by omega, rfl, rfl, HI0⟩
  case round =>
    obtain ⟨i, hki, hin, hg, rfl, rfl, HD⟩ := hrel
    clear HI0 HI
    by_cases hlt : i + 1 < n
    · have hjl : i + 1 < xs.length := by rw [← HX.out, HNN.out]; exact hlt
      have hx : xs[i + 1]? = some xs[i + 1] := List.getElem?_eq_getElem hjl
      obtain ⟨A, c, x0, x1, x2, x3, hfr, hsm, _, hstep⟩ := del_row HD.out (by omega) hx
      rw [Nat.add_sub_cancel] at hstep
      have hne := HU.out (i + 1) _ (by omega) hx
      have hbx : Below wr.heap.size wr (wr.alloc (.cells #[.string xs[i + 1].f0, .bool xs[i + 1].f1, .int .i64 xs[i + 1].f2, .slice A xs[i + 1].f3.length c] 39)) := (Below.refl _ wr).alloc (Nat.le_refl _) _
      have hcn : wr.cell? ⟨bn, 0, none⟩ = some (.string s) := by
        obtain ⟨_, _, _, _, _, _, _, hcb, _⟩ := HD.out
        rw [hcb.cell (p := ⟨bn, 0, none⟩) hbn]
        exact nm_cell_at HB1.out HN.out
      have HC := Lib.hid (drop2_clo xs[i + 1] A xs[i + 1].f3.length c s bn _ (nm_cell_at hbx hcn))
      have HBX := Lib.hid hbx
      have HST := Lib.hid hstep
      have hbw : b < wr.heap.size := World.block_lt_of_cell? _ _ x0
      have hj4 : ∀ q, q < 4 → ∃ u, wr.cell? ⟨b, i * 4 + q, none⟩ = some u := fun q hq => Option.isSome_iff_exists.1 (hsm (i * 4 + q) (by omega))
      obtain ⟨u0, p0⟩ := hj4 0 (by omega)
      obtain ⟨u1, p1⟩ := hj4 1 (by omega)
      obtain ⟨u2, p2⟩ := hj4 2 (by omega)
      obtain ⟨u3, p3⟩ := hj4 3 (by omega)
      rw [Nat.add_zero] at p0
      have f0 := hfr (i * 4)
      have f1 := hfr (i * 4 + 1)
      have f2 := hfr (i * 4 + 2)
      have f3 := hfr (i * 4 + 3)
      rw [decide_eq_false hne] at HC
      have HBW := Lib.hid hbw
      clear hstep hfr hsm hj4 hbx hx hne hbw hcn
      generalize xs[i + 1] = x at *
      have hi0 : (0 : Int) ≤ (i : Int) + 1 := by omega
      have hi1 : (i : Int) + 1 < (n : Int) := by omega
      have hi3 : (0 : Int) ≤ (i : Int) := Int.natCast_nonneg _
      have hi4 : (i : Int) < (n : Int) := by omega
      have e1 : ((i : Int) + 1).toNat = i + 1 := by omega
      have P0 := Lib.hid p0
      have P1 := Lib.hid p1
      have P2 := Lib.hid p2
      have P3 := Lib.hid p3
      have F0 := Lib.hid f0
      have F1 := Lib.hid f1
      have F2 := Lib.hid f2
      have F3 := Lib.hid f3
      clear p0 p1 p2 p3 f0 f1 f2 f3
      go_wp2_with fail
      refine HC.out.mono ?_
      rintro e w2 ⟨rfl, hb2⟩
      have HB2 := Lib.hid (HBX.out.trans (hb2.mono HBX.out.size))
      have p0 := nm_cell_at HB2.out P0.out
      have p1 := nm_cell_at HB2.out P1.out
      have p2 := nm_cell_at HB2.out P2.out
      have p3 := nm_cell_at HB2.out P3.out
      have f0 := (HB2.out.frozen (p := ⟨b, i * 4, none⟩) HBW.out).trans F0.out
      have f1 := (HB2.out.frozen (p := ⟨b, i * 4 + 1, none⟩) HBW.out).trans F1.out
      have f2 := (HB2.out.frozen (p := ⟨b, i * 4 + 2, none⟩) HBW.out).trans F2.out
      have f3 := (HB2.out.frozen (p := ⟨b, i * 4 + 3, none⟩) HBW.out).trans F3.out
      have g0 := nm_cell_at hb2 (nm_box wr #[.string x.f0, .bool x.f1, .int .i64 x.f2, .slice A x.f3.length c] 39 0)
      have g1 := nm_cell_at hb2 (nm_box wr #[.string x.f0, .bool x.f1, .int .i64 x.f2, .slice A x.f3.length c] 39 1)
      have g2 := nm_cell_at hb2 (nm_box wr #[.string x.f0, .bool x.f1, .int .i64 x.f2, .slice A x.f3.length c] 39 2)
      have g3 := nm_cell_at hb2 (nm_box wr #[.string x.f0, .bool x.f1, .int .i64 x.f2, .slice A x.f3.length c] 39 3)
      clear hb2
      go_wp2_with fail
      go_roundg (n - (i + 2))
      case measure => omega
      case rel => exact ⟨i + 1, by omega, by omega, by omega, by go_num, by go_num, Lib.hid (HST.out _ HB2.out)⟩
    · have hk : i + 1 = n := by omega
      obtain rfl : i = m := by have := HNN.out; omega
      subst hk
      obtain ⟨hcs, hSE, hBE⟩ := del_end HD.out (by omega)
      have hcl : ∀ ty, (Builtin.clear_ #[22] ty #[.slice (some ⟨b, i * 4, none⟩) 1 (cap - i)]).run Tryz.prog wr = .ok (.tuple #[]) (wr.setCells b (i * 4) [.string ⟨#[]⟩, .bool false, .int .i64 0, .slice none 0 0]) := fun ty =>
        run_clear_one wr _ _ ty _ Tryz.underlying22 zero_prox (by intro u hu; simp [Value.cells] at hu; rcases hu with rfl | rfl | rfl | rfl <;> rfl) b (i * 4) (cap - i) (fun j hj => (hcs j hj).1) (fun j hj => (hcs j hj).2)
      have HE := Lib.hid (And.intro hSE hBE)
      have hbb : Below B w w1 := HB1.out.mono hB
      have HBB := Lib.hid hbb
      generalize (wr.setCells b (i * 4) [.string ⟨#[]⟩, .bool false, .int .i64 0, .slice none 0 0]) = w5 at *
      clear hcs hSE hBE hbb
      have r1 : (i : Int) ≤ ((i + 1 : Nat) : Int) := by omega
      have r2 : ((i + 1 : Nat) : Int) ≤ (cap : Int) := by omega
      have r3 : i + 1 - i = 1 := by omega
      have r4 : i ≤ i + 1 := by omega
      have r5 : ¬ cap = i := by omega
      have r6 : i ≤ cap := by omega
      go_wp2_with fail
      go_ret
      exact ⟨rfl, HE.out.1, HBB.out.trans HE.out.2⟩
end Go.Proofs.YtlglbpjccpdloaaGreat.Ext
set_option linter.unusedVariables false
set_option linter.unusedSimpArgs false
namespace Go.Proofs.YtlglbpjccpdloaaGreat.Ext
open Go.RowKit Go.Proofs.YtlglbpjccpdloaaGreat.PNamA Go.Proofs.YtlglbpjccpdloaaGreat.Tox Go.Proofs.YtlglbpjccpdloaaGreat.ToxZ Go.Proofs.YtlglbpjccpdloaaGreatW.PrintWords Go.Proofs.YtlglbpjccpdloaaGreatW.PrintLast
theorem u8_lt (a b : UInt8) : (a < b) = (a.toNat < b.toNat) := by rw [UInt8.lt_iff_toNat_lt]
theorem bl_irrefl : ∀ x : List UInt8, Op.bytesLess x x = false
  | [] => rfl
  | a :: x => by simp [Op.bytesLess, bl_irrefl x]
theorem bl_trans : ∀ x y z : List UInt8, Op.bytesLess x y = true → Op.bytesLess y z = true → Op.bytesLess x z = true
  | x, y, [], _, h => by cases y <;> simp [Op.bytesLess] at h
  | x, [], c :: z, h, _ => by cases x <;> simp [Op.bytesLess] at h
  | [], b :: y, c :: z, _, _ => rfl
  | a :: x, b :: y, c :: z, h1, h2 => by
    simp only [Op.bytesLess, Bool.or_eq_true, decide_eq_true_eq, Bool.and_eq_true, beq_iff_eq, u8_lt] at *
    rcases h1 with h1 | ⟨rfl, h1⟩
    · rcases h2 with h2 | ⟨rfl, h2⟩
      · exact .inl (by omega)
      · exact .inl h1
    · rcases h2 with h2 | ⟨rfl, h2⟩
      · exact .inl h2
      · exact .inr ⟨rfl, bl_trans x y z h1 h2⟩
theorem bl_tri : ∀ x y : List UInt8, Op.bytesLess x y = false → Op.bytesLess y x = false → x = y
  | [], [], _, _ => rfl
  | [], b :: y, h, _ => by simp [Op.bytesLess] at h
  | a :: x, [], _, h => by simp [Op.bytesLess] at h
  | a :: x, b :: y, h1, h2 => by
    simp only [Op.bytesLess, Bool.or_eq_false_iff, decide_eq_false_iff_not, Bool.and_eq_false_iff, beq_eq_false_iff_ne, u8_lt] at *
    have hab : a = b := by
      apply UInt8.toNat_inj.1
      omega
    subst hab
    rcases h1.2 with h | h
    · exact absurd rfl h
    · rcases h2.2 with h' | h'
      · exact absurd rfl h'
      · rw [bl_tri x y h h']
theorem ltS_irrefl (a : ByteArray) : ltS a a = false := bl_irrefl _
theorem ltS_trans {a b c : ByteArray} (h1 : ltS a b = true) (h2 : ltS b c = true) : ltS a c = true := bl_trans _ _ _ h1 h2
theorem ltS_tri {a b : ByteArray} (h1 : ltS a b = false) (h2 : ltS b a = false) : a = b := (nm_toList_eq_iff _ _).1 (bl_tri _ _ h1 h2)
theorem ltS_ne {a b : ByteArray} (h : ltS a b = true) : a ≠ b := by
  rintro rfl
  rw [ltS_irrefl] at h
  cases h
theorem sortedFrom_all : ∀ (l : List ByteArray) (p : ByteArray), sortedFrom p l = true → ∀ x ∈ l, ltS p x = true
  | [], _, _, x, hx => by cases hx
  | y :: r, p, h, x, hx => by
    simp only [sortedFrom, Bool.and_eq_true] at h
    rcases List.mem_cons.1 hx with rfl | hx
    · exact h.1
    · exact ltS_trans h.1 (sortedFrom_all r y h.2 x hx)
theorem sortedFrom_pair : ∀ (l : List ByteArray) (p : ByteArray), sortedFrom p l = true → (p :: l).Pairwise (fun a b => ltS a b = true)
  | [], _, _ => by simp
  | y :: r, p, h => by
    have h1 := sortedFrom_all (y :: r) p h
    simp only [sortedFrom, Bool.and_eq_true] at h
    exact List.pairwise_cons.2 ⟨h1, sortedFrom_pair r y h.2⟩
theorem sorted_pair (l : List ByteArray) (h : sortedB l = true) : l.Pairwise (fun a b => ltS a b = true) := by
  cases l with
  | nil => simp
  | cons x r => exact sortedFrom_pair r x h
theorem pair_sortedFrom : ∀ (l : List ByteArray) (p : ByteArray), (p :: l).Pairwise (fun a b => ltS a b = true) → sortedFrom p l = true
  | [], _, _ => rfl
  | y :: r, p, h => by
    rw [List.pairwise_cons] at h
    simp only [sortedFrom, Bool.and_eq_true]
    exact ⟨h.1 y (by simp), pair_sortedFrom r y h.2⟩
theorem pair_sorted (l : List ByteArray) (h : l.Pairwise (fun a b => ltS a b = true)) : sortedB l = true := by
  cases l with
  | nil => rfl
  | cons x r => exact pair_sortedFrom r x h
theorem right_pair {l : List S39} (h : rightB l = true) : (namesP l).Pairwise (fun a b => ltS a b = true) := by
  unfold rightB at h
  simp only [Bool.and_eq_true] at h
  exact sorted_pair _ h.1.2
theorem placeFrom_spec : ∀ (l : List ByteArray) (s : ByteArray) (i : Nat), (Lib.idxFromS l s i = -1 ∧ s ∉ l) ∨ ∃ k, Lib.idxFromS l s i = ((i + k : Nat) : Int) ∧ l[k]? = some s ∧ ∀ j, j < k → l[j]? ≠ some s
  | [], s, i => .inl ⟨rfl, by simp⟩
  | y :: r, s, i => by
    rw [Lib.idxFromS]
    by_cases h : y = s
    · rw [if_pos h]
      exact .inr ⟨0, by simp, by simp [h], fun j hj => by omega⟩
    · rw [if_neg h]
      rcases placeFrom_spec r s (i + 1) with ⟨h1, h2⟩ | ⟨k, h1, h2, h3⟩
      · exact .inl ⟨h1, by simp [h2, Ne.symm h]⟩
      · refine .inr ⟨k + 1, by rw [h1]; congr 1; omega, by simpa using h2, fun j hj => ?_⟩
        cases j with
        | zero => simp [h]
        | succ j => simpa using h3 j (by omega)
theorem place_spec (l : List ByteArray) (s : ByteArray) : (place l s = -1 ∧ s ∉ l) ∨ ∃ k : Nat, place l s = (k : Int) ∧ l[k]? = some s ∧ ∀ j, j < k → l[j]? ≠ some s := by
  have := placeFrom_spec l s 0
  simpa [place, Lib.idxOfS] using this
theorem place_neg {l : List ByteArray} {s : ByteArray} : place l s < 0 ↔ s ∉ l := by
  rcases place_spec l s with ⟨h1, h2⟩ | ⟨k, h1, h2, _⟩
  · rw [h1]; simp [h2]
  · rw [h1]
    have : s ∈ l := List.mem_of_getElem? h2
    constructor
    · intro h; omega
    · intro h; exact absurd this h
theorem only_one {l : List S39} {s : ByteArray} {k : Nat} (h : rightB l = true) (hk : place (namesP l) s = (k : Int)) (j : Nat) (x : S39) (hj : k < j) (hx : l[j]? = some x) : x.f0 ≠ s := by
  rcases place_spec (namesP l) s with ⟨h1, _⟩ | ⟨k', h1, h2, _⟩
  · omega
  · have hkk : k' = k := by omega
    subst hkk
    have hp := right_pair h
    have hjx : (namesP l)[j]? = some x.f0 := by simp [namesP, hx]
    obtain ⟨hkl, hke⟩ := List.getElem?_eq_some_iff.1 h2
    obtain ⟨hjl, hje⟩ := List.getElem?_eq_some_iff.1 hjx
    have := List.pairwise_iff_getElem.1 hp k' j hkl hjl hj
    rw [hke, hje] at this
    exact (ltS_ne this).symm
end Go.Proofs.YtlglbpjccpdloaaGreat.Ext
set_option linter.unusedVariables false
set_option linter.unusedSimpArgs false
namespace Go.Proofs.YtlglbpjccpdloaaGreat
open Go.RowKit Go.MapKept Go.ChangeMaps
section
variable {α : Type} [Inhabited α] {enc : α → List Value} {s : Nat}
theorem flatK_flat' (hf : ∀ x, (enc x).length = s) (hs : 0 < s) (L : List α) : (Go.Sort.flatK enc s L.toArray).toList = flat enc L := by
  apply List.ext_getElem?
  intro t
  by_cases h : t < L.length * s
  · have hk : t / s < L.length := (Nat.div_lt_iff_lt_mul hs).2 h
    have e : t = t / s * s + t % s := by rw [Nat.mul_comm]; exact (Nat.div_add_mod t s).symm
    have h2 : t % s < s := Nat.mod_lt _ hs
    have hx : L[t / s]? = some L[t / s] := List.getElem?_eq_getElem hk
    have hfl := flat_at hf L (t / s) L[t / s] (t % s) hx h2
    rw [← e] at hfl
    rw [hfl, Array.getElem?_toList, Array.getElem?_eq_getElem (by simpa using h)]
    have hg := Go.Sort.get_flatK enc s L.toArray t (by simpa using h)
    rw [getElem!_pos _ t (by simpa using h)] at hg
    rw [hg, getElem!_pos _ (t / s) (by simpa using hk)]
    have hl : t % s < (enc L[t / s]).length := by rw [hf]; exact h2
    simp only [List.getElem_toArray]
    rw [getElem!_pos _ (t % s) hl, List.getElem?_eq_getElem hl]
  · rw [List.getElem?_eq_none (by simp; omega), List.getElem?_eq_none (by rw [flat_length hf]; omega)]
theorem holds_of_own' (hf : ∀ x, (enc x).length = s) (hs : 0 < s) {w : World} {e : TypeId} {g n cap base : Nat} {L : List α} (h : w.ownsRow base e s (.slice (some ⟨g, 0, none⟩) n cap) n (flat enc L)) :
    Go.Sort.HoldsK enc s w g 0 L.toArray ∧ g < w.heap.size := by
  obtain ⟨hl, h2⟩ := h
  rcases h2 with ⟨h2, _⟩ | ⟨g', cap', cur, h3, h4, hh, hn, hm, hsz, ht⟩
  · cases h2
  · simp only [Value.slice.injEq, Option.some.injEq, Addr.mk.injEq] at h3
    obtain ⟨⟨rfl, _⟩, _, rfl⟩ := h3
    refine ⟨fun j hj => ⟨?_, free_of_cells hh _⟩, lt_of_heap hh⟩
    have hj2 := hj
    rw [Go.Sort.size_flatK, List.size_toArray] at hj2
    have hfl := flat_length hf L
    rw [cell_of_cells hh, Nat.zero_add, getElem!_pos _ j hj]
    have h1 : cur[j]? = (flat enc L)[j]? := by
      rw [← ht, List.getElem?_take_of_lt (by omega), Array.getElem?_toList]
    rw [h1, ← flatK_flat' hf hs, Array.getElem?_toList, Array.getElem?_eq_getElem hj]
    rfl
theorem sorted_own (hf : ∀ x, (enc x).length = s) (hs : 0 < s) {w : World} {e : TypeId} {g n cap base : Nat} {L R : List α} (h : w.ownsRow base e s (.slice (some ⟨g, 0, none⟩) n cap) n (flat enc L)) (hlen : R.length = L.length) (m : Nat) (os : Array Obj) :
    (sortWorldK enc s w g 0 m R.toArray os).ownsRow base e s (.slice (some ⟨g, 0, none⟩) n cap) n (flat enc R) ∧ w.grownBy (sortWorldK enc s w g 0 m R.toArray os) (some g) := by
  obtain ⟨hl, h2⟩ := h
  rcases h2 with ⟨h2, _⟩ | ⟨g', cap', cur, h3, h4, hh, hn, hm, hsz, ht⟩
  · cases h2
  · simp only [Value.slice.injEq, Option.some.injEq, Addr.mk.injEq] at h3
    obtain ⟨⟨rfl, _⟩, _, rfl⟩ := h3
    have hgw := lt_of_heap hh
    have hblk : ∀ k, k < w.heap.size → (sortWorldK enc s w g 0 m R.toArray os).heap[k]? = if g = k then some (.cells (Go.Sort.putCells id 0 (Go.Sort.flatK enc s R.toArray) cur) e (0, 0)) else w.heap[k]? := by
      intro k hk
      simp only [sortWorldK, Go.Sort.grow, Go.Sort.putRowK, Go.Sort.putRow, Go.Sort.mapBlock, Go.Sort.ahead]
      rw [Array.getElem?_append_left (by simpa using hk), Array.getElem?_modify]
      by_cases he : g = k
      · subst he
        rw [if_pos rfl, if_pos rfl, hh]
        rfl
      · rw [if_neg he, if_neg he]
    have hRl : (flat enc R).length = n * s := by rw [flat_length hf, hlen, ← flat_length hf]; exact hl
    refine ⟨⟨hRl, .inr ⟨g, cap, Go.Sort.putCells id 0 (Go.Sort.flatK enc s R.toArray) cur, rfl, h4, by rw [hblk g hgw, if_pos rfl], hn, hm, by simp [Go.Sort.putCells, hsz], ?_⟩⟩, ⟨rfl, rfl, rfl, ?_, fun k hk hne => ?_⟩⟩
    · have hFs : (Go.Sort.flatK enc s R.toArray).size = n * s := by
        rw [← Array.length_toList, flatK_flat' hf hs]; exact hRl
      have hns : n * s ≤ cur.size := by rw [hsz]; exact Nat.mul_le_mul_right _ hn
      apply List.ext_getElem?
      intro t
      by_cases htn : t < n * s
      · rw [List.getElem?_take_of_lt htn, Array.getElem?_toList]
        simp only [Go.Sort.putCells, Array.getElem?_mapIdx]
        rw [Array.getElem?_eq_getElem (by omega)]
        simp only [Option.map_some]
        rw [if_pos ⟨by omega, by omega⟩]
        rw [← flatK_flat' hf hs, Array.getElem?_toList, Array.getElem?_eq_getElem (by omega)]
        simp only [Nat.sub_zero, id]
        rw [getElem!_pos _ t (by omega)]
      · rw [List.getElem?_eq_none (by simp; omega), List.getElem?_eq_none (by omega)]
    · simp [sortWorldK, Go.Sort.grow, Go.Sort.putRowK, Go.Sort.putRow, Go.Sort.mapBlock, Go.Sort.ahead]
    · rw [hblk k hk, if_neg (fun he => hne (by rw [he]))]
end
def GrK (W W' : World) : Prop := ∃ q os', W' = Go.Sort.grow (W.drewN q) os'
theorem GrK.alloc {W W' : World} (h : GrK W W') (o : Obj) : GrK W (W'.alloc o) := by
  obtain ⟨q, os, rfl⟩ := h
  exact ⟨q, os ++ #[o], by rw [Go.Sort.alloc_eq_grow, Go.Sort.grow_grow]⟩
theorem GrK.refl (W : World) : GrK W W := ⟨0, #[], by simp [Go.Sort.grow, World.drewN]⟩
end Go.Proofs.YtlglbpjccpdloaaGreat
namespace Go.Proofs
open Go.Shelf
def Tryz.sortProx_ren : Go.Shelf.Ren := ⟨fun | 6 => 34 | 15 => 63 | 14 => 62 | 28 => 83 | 29 => 84 | 20 => 75 | 21 => 76 | 22 => 77 | 23 => 78 | 24 => 79 | 25 => 80 | 26 => 81 | 27 => 82 | 46 => 93 | 47 => 94 | 48 => 95 | 49 => 96 | 50 => 97 | 57 => 106 | n => n, fun | 22 => 22 | 24 => 39 | 25 => 60 | 3 => 3 | 39 => 80 | 0 => 0 | 53 => 95 | 55 => 97 | 4 => 4 | 46 => 88 | 45 => 87 | 50 => 92 | 5 => 5 | 9 => 9 | 66 => 112 | 70 => 116 | 76 => 119 | 77 => 120 | n => n, fun | n => n⟩
theorem Tryz.sortProx : Go.Proofs.SlLaysF0.n6 Tryz.prog Tryz.sortProx_ren := {
  mixed := by kernel_rfl
  f6 := ⟨Tryz.f34.name, by decide, Tryz.func34.trans (congrArg some (by kernel_rfl))⟩
  f14 := ⟨Tryz.f62.name, by decide, Tryz.func62.trans (congrArg some (by kernel_rfl))⟩
  f15 := Tryz.func63.trans (congrArg some (by kernel_rfl))
  f20 := ⟨Tryz.f75.name, by decide, Tryz.func75.trans (congrArg some (by kernel_rfl))⟩
  f21 := ⟨Tryz.f76.name, by decide, Tryz.func76.trans (congrArg some (by kernel_rfl))⟩
  f22 := ⟨Tryz.f77.name, by decide, Tryz.func77.trans (congrArg some (by kernel_rfl))⟩
  f23 := ⟨Tryz.f78.name, by decide, Tryz.func78.trans (congrArg some (by kernel_rfl))⟩
  f24 := ⟨Tryz.f79.name, by decide, Tryz.func79.trans (congrArg some (by kernel_rfl))⟩
  f25 := ⟨Tryz.f80.name, by decide, Tryz.func80.trans (congrArg some (by kernel_rfl))⟩
  f26 := ⟨Tryz.f81.name, by decide, Tryz.func81.trans (congrArg some (by kernel_rfl))⟩
  f27 := ⟨Tryz.f82.name, by decide, Tryz.func82.trans (congrArg some (by kernel_rfl))⟩
  f28 := Tryz.func83.trans (congrArg some (by kernel_rfl))
  f29 := Tryz.func84.trans (congrArg some (by kernel_rfl))
  f46 := ⟨Tryz.f93.name, by decide, Tryz.func93.trans (congrArg some (by kernel_rfl))⟩
  f47 := Tryz.func94.trans (congrArg some (by kernel_rfl))
  f48 := Tryz.func95.trans (congrArg some (by kernel_rfl))
  f49 := ⟨Tryz.f96.name, by decide, Tryz.func96.trans (congrArg some (by kernel_rfl))⟩
  f50 := ⟨Tryz.f97.name, by decide, Tryz.func97.trans (congrArg some (by kernel_rfl))⟩
  f57 := ⟨Tryz.f106.name, by decide, Tryz.func106.trans (congrArg some (by kernel_rfl))⟩
  t0 := Tryz.underlying0
  a0 := Tryz.isAgg0
  z0 := Tryz.sizeOf0
  v0 := Tryz.zeroValue0
  t3 := Tryz.underlying3
  a3 := Tryz.isAgg3
  z3 := Tryz.sizeOf3
  v3 := Tryz.zeroValue3
  t4 := Tryz.underlying4
  a4 := Tryz.isAgg4
  z4 := Tryz.sizeOf4
  v4 := Tryz.zeroValue4
  t5 := Tryz.underlying5
  a5 := Tryz.isAgg5
  z5 := Tryz.sizeOf5
  v5 := Tryz.zeroValue5
  t9 := Tryz.underlying9
  a9 := Tryz.isAgg9
  z9 := Tryz.sizeOf9
  v9 := Tryz.zeroValue9
  t22 := Tryz.underlying22
  a22 := Tryz.isAgg22
  z22 := Tryz.sizeOf22
  v22 := Tryz.zeroValue22
  t25 := Tryz.underlying60
  a25 := Tryz.isAgg60
  z25 := Tryz.sizeOf60
  v25 := Tryz.zeroValue60
  t39 := Tryz.underlying80
  a39 := Tryz.isAgg80
  z39 := Tryz.sizeOf80
  v39 := Tryz.zeroValue80
  t45 := Tryz.underlying87
  a45 := Tryz.isAgg87
  z45 := Tryz.sizeOf87
  v45 := Tryz.zeroValue87
  t46 := Tryz.underlying88
  a46 := Tryz.isAgg88
  z46 := Tryz.sizeOf88
  v46 := Tryz.zeroValue88
  t50 := Tryz.underlying92
  a50 := Tryz.isAgg92
  z50 := Tryz.sizeOf92
  v50 := Tryz.zeroValue92
  t53 := Tryz.underlying95
  a53 := Tryz.isAgg95
  z53 := Tryz.sizeOf95
  v53 := Tryz.zeroValue95
  t55 := Tryz.underlying97
  a55 := Tryz.isAgg97
  z55 := Tryz.sizeOf97
  v55 := Tryz.zeroValue97
  t66 := Tryz.underlying112
  a66 := Tryz.isAgg112
  z66 := Tryz.sizeOf112
  v66 := Tryz.zeroValue112
  t70 := Tryz.underlying116
  a70 := Tryz.isAgg116
  z70 := Tryz.sizeOf116
  v70 := Tryz.zeroValue116
  t76 := Tryz.underlying119
  a76 := Tryz.isAgg119
  z76 := Tryz.sizeOf119
  v76 := Tryz.zeroValue119
  t77 := Tryz.underlying120
  a77 := Tryz.isAgg120
  z77 := Tryz.sizeOf120
  v77 := Tryz.zeroValue120 }
end Go.Proofs
set_option linter.unusedVariables false
set_option linter.unusedSimpArgs false
namespace Go.Proofs.YtlglbpjccpdloaaGreat.Ext
open Go.RowKit Go.Shelf Go.Proofs.YtlglbpjccpdloaaGreat.PNamA Go.Proofs.YtlglbpjccpdloaaGreat.Tox Go.Proofs.YtlglbpjccpdloaaGreat.ToxZ Go.Proofs.YtlglbpjccpdloaaGreatW.PrintWords Go.Proofs.YtlglbpjccpdloaaGreatW.PrintLast
abbrev AX := S39 × (Option Addr × Nat)
def enc4 (a : AX) : List Value := [.string a.1.f0, .bool a.1.f1, .int .i64 a.1.f2, .slice a.2.1 a.1.f3.length a.2.2]
instance : Inhabited S39 := ⟨z39⟩
theorem enc4_len (a : AX) : (enc4 a).length = 4 := rfl
theorem enc4_one (a : AX) : ∀ v ∈ enc4 a, v.oneCell' = true := by
  intro v hv
  simp [enc4] at hv
  rcases hv with rfl | rfl | rfl | rfl <;> rfl
def cmpN (a b : AX) : Int := Lib.compareBytes a.1.f0.data.toList b.1.f0.data.toList
theorem compare_lt : ∀ (a b : List UInt8), Lib.compareBytes a b < 0 ↔ Op.bytesLess a b = true
  | [], [] => by simp [Lib.compareBytes, Op.bytesLess]
  | [], _ :: _ => by simp [Lib.compareBytes, Op.bytesLess]
  | _ :: _, [] => by simp [Lib.compareBytes, Op.bytesLess]
  | a :: x, b :: y => by
    simp only [Lib.compareBytes, Op.bytesLess, Bool.or_eq_true, decide_eq_true_eq, Bool.and_eq_true, beq_iff_eq]
    by_cases h1 : a < b
    · rw [if_pos h1]; simp [h1]
    · rw [if_neg h1]
      by_cases h2 : b < a
      · rw [if_pos h2]
        constructor
        · intro h; omega
        · rintro (h | ⟨rfl, _⟩)
          · exact absurd h h1
          · exact absurd h2 h1
      · rw [if_neg h2, compare_lt x y]
        have : a = b := by
          rw [u8_lt] at h1 h2
          exact UInt8.toNat_inj.1 (by omega)
        simp [this, h1]
theorem ltOf_cmpN (a b : AX) : ltOf cmpN a b = ltS a.1.f0 b.1.f0 := by
  unfold ltOf cmpN ltS
  rw [Bool.eq_iff_iff, decide_eq_true_eq, compare_lt, ByteArray.toList_eq, ByteArray.toList_eq]
theorem swo_cmpN : Go.Sort.SWO (ltOf cmpN) where
  irrefl x := by rw [ltOf_cmpN]; exact ltS_irrefl _
  trans x y z h1 h2 := by rw [ltOf_cmpN] at *; exact ltS_trans h1 h2
  ntrans x y z h1 h2 := by
    rw [ltOf_cmpN] at *
    cases h : ltS x.1.f0 z.1.f0 with
    | false => rfl
    | true =>
      cases h3 : ltS y.1.f0 x.1.f0 with
      | true => rw [ltS_trans h3 h] at h2; cases h2
      | false =>
        have := ltS_tri h1 h3
        rw [this] at h
        rw [h] at h2
        cases h2
def insP (p : S39) : List S39 → List S39
  | [] => [p]
  | x :: r => if ltS p.f0 x.f0 then p :: x :: r else x :: insP p r
theorem insP_perm (p : S39) : ∀ l, (insP p l).Perm (p :: l)
  | [] => List.Perm.refl _
  | x :: r => by
    unfold insP
    split
    · exact List.Perm.refl _
    · exact ((insP_perm p r).cons x).trans (List.Perm.swap p x r)
abbrev ltP (x y : S39) : Prop := ltS x.f0 y.f0 = true
theorem insP_pair (p : S39) : ∀ l, l.Pairwise ltP → p.f0 ∉ namesP l → (insP p l).Pairwise ltP
  | [], _, _ => by simp [insP]
  | x :: r, h, hn => by
    rw [List.pairwise_cons] at h
    unfold insP
    by_cases hp : ltS p.f0 x.f0 = true
    · rw [if_pos hp]
      refine List.pairwise_cons.2 ⟨fun y hy => ?_, List.pairwise_cons.2 h⟩
      rcases List.mem_cons.1 hy with rfl | hy
      · exact hp
      · exact ltS_trans hp (h.1 y hy)
    · rw [if_neg hp]
      simp only [namesP, List.map_cons, List.mem_cons, not_or] at hn
      refine List.pairwise_cons.2 ⟨fun y hy => ?_, insP_pair p r h.2 hn.2⟩
      have hy' := (insP_perm p r).mem_iff.1 hy
      rcases List.mem_cons.1 hy' with rfl | hy'
      · cases hxp : ltS x.f0 y.f0 with
        | true => exact hxp
        | false => exact absurd (ltS_tri (by simpa using hp) hxp) hn.1
      · exact h.1 y hy'
theorem uniq_sorted : ∀ (a b : List S39), a.Perm b → a.Pairwise ltP → b.Pairwise ltP → a = b
  | [], b, h, _, _ => by rw [List.Perm.nil_eq h]
  | x :: r, [], h, _, _ => by have := h.length_eq; simp at this
  | x :: r, y :: t, h, ha, hb => by
    have hxy : x = y := by
      have hx : x ∈ y :: t := h.mem_iff.1 (by simp)
      have hy : y ∈ x :: r := h.mem_iff.2 (by simp)
      rcases List.mem_cons.1 hx with hx | hx
      · exact hx
      · rcases List.mem_cons.1 hy with hy | hy
        · exact hy.symm
        · have h1 := (List.pairwise_cons.1 hb).1 x hx
          have h2 := (List.pairwise_cons.1 ha).1 y hy
          have h3 := ltS_trans h1 h2
          rw [ltS_irrefl] at h3
          cases h3
    subst hxy
    rw [uniq_sorted r t (List.Perm.cons_inv h) (List.pairwise_cons.1 ha).2 (List.pairwise_cons.1 hb).2]
theorem right_pairP {l : List S39} (h : rightB l = true) : l.Pairwise ltP := by
  have := right_pair h
  rw [namesP, List.pairwise_map] at this
  exact this
theorem sorted_ins {l : List S39} {p : S39} {D R : List AX} (h : rightB l = true) (hp : p.f0 ∉ namesP l) (hD : D.map (·.1) = l ++ [p]) (hperm : R.Perm D) (hs : ∀ (i j : Nat) (x y : AX), i < j → R[i]? = some x → R[j]? = some y → ltS y.1.f0 x.1.f0 = false) : R.map (·.1) = insP p l := by
  have hP1 : (R.map (·.1)).Perm (insP p l) := by
    refine (hperm.map _).trans ?_
    rw [hD]
    exact (List.perm_append_singleton p l).trans (insP_perm p l).symm
  have hins := insP_pair p l (right_pairP h) hp
  have hnd : ((R.map (·.1)).map (·.f0)).Nodup := by
    have h1 : ((insP p l).map (·.f0)).Nodup := by
      rw [List.Nodup, List.pairwise_map]
      exact hins.imp fun h => ltS_ne h
    exact (hP1.map _).nodup_iff.2 h1
  refine uniq_sorted _ _ hP1 ?_ hins
  rw [List.pairwise_map]
  refine List.pairwise_iff_getElem.2 fun i j hi hj hij => ?_
  have h1 := hs i j _ _ hij (List.getElem?_eq_getElem hi) (List.getElem?_eq_getElem hj)
  cases h2 : ltS R[i].1.f0 R[j].1.f0 with
  | true => exact h2
  | false =>
    have he := ltS_tri h2 h1
    rw [List.Nodup, List.map_map, List.pairwise_map] at hnd
    have := List.pairwise_iff_getElem.1 hnd i j hi hj hij
    exact absurd he this
def mayB (n : Int) : Bool := decide (1 ≤ n) && decide (n ≤ 16)
def addOf (l : List S39) (s : ByteArray) (n : Int) : List S39 × Int :=
  if rightB l then (if nameOk s then (if 0 ≤ place (namesP l) s then (l, 141) else if mayB n then (if 8 ≤ l.length then (l, 143) else (insP ⟨s, true, n, []⟩ l, 0)) else (l, 144)) else (l, 140)) else ([], 1)
def names_Add.f (l : List S39) (s : ByteArray) (n : Int) : Option (List S39 × Int) := if l.length ≤ 4611686018427387904 then some (addOf l s n) else none
theorem add1_clo (x y : AX) (W : World) :
    Calls Tryz.prog 35 #[.agg #[.string x.1.f0, .bool x.1.f1, .int .i64 x.1.f2, .slice x.2.1 x.1.f3.length x.2.2], .agg #[.string y.1.f0, .bool y.1.f1, .int .i64 y.1.f2, .slice y.2.1 y.1.f3.length y.2.2]] W fun e w' => e = .returned (.int .i64 (cmpN x y)) ∧ GrK W w' := by
  have HC := Lib.hid (fun W => Tryz.strings_Compare x.1.f0 y.1.f0 W)
  have HG := Lib.hid (((GrK.refl W).alloc (.cells #[.string x.1.f0, .bool x.1.f1, .int .i64 x.1.f2, .slice x.2.1 x.1.f3.length x.2.2] 39)).alloc (.cells #[.string y.1.f0, .bool y.1.f1, .int .i64 y.1.f2, .slice y.2.1 y.1.f3.length y.2.2] 39))
  unfold cmpN
  generalize Lib.compareBytes x.1.f0.data.toList y.1.f0.data.toList = r at *
  go_enter Tryz.func35, Tryz.ntmps35
  go_wp2_with (go_at_call 36; refine (HC.out _).mono ?_; rintro e w1 ⟨rfl, rfl⟩)
  go_ret
  exact ⟨rfl, HG.out⟩
theorem add1_lays (blk off size : Nat) (w : World) : CmpLays Tryz.prog 35 #[] enc4 4 cmpN blk off size w := by
  intro m os dk _ x y
  exact add1_clo x y _
theorem agg_prox (w : World) : (isAgg 39).run Tryz.prog w = .ok true w := by kernel_rfl
theorem size_prox (w : World) : (Go.sizeOf 39).run Tryz.prog w = .ok 4 w := by kernel_rfl
theorem pick_list {α : Type} (P : Nat → α → Prop) : ∀ (n : Nat), (∀ j, j < n → ∃ a, P j a) → ∃ l : List α, l.length = n ∧ ∀ j a, l[j]? = some a → P j a
  | 0, _ => ⟨[], rfl, fun j a h => by simp at h⟩
  | n + 1, h => by
    obtain ⟨l, hl, hp⟩ := pick_list P n (fun j hj => h j (by omega))
    obtain ⟨a, ha⟩ := h n (by omega)
    refine ⟨l ++ [a], by simp [hl], fun j b hb => ?_⟩
    by_cases hj : j < n
    · rw [List.getElem?_append_left (by omega)] at hb
      exact hp j b hb
    · have : j = n := by
        have := (List.getElem?_eq_some_iff.1 hb).1
        simp [hl] at this
        omega
      subst this
      rw [List.getElem?_append_right (by omega), hl, Nat.sub_self] at hb
      simp at hb
      rw [← hb]
      exact ha
theorem drop_take_flat (D : List AX) (j : Nat) (a : AX) (h : D[j]? = some a) : ((flat enc4 D).drop (j * 4)).take 4 = enc4 a := by
  apply List.ext_getElem?
  intro i
  rw [List.getElem?_take]
  split
  · rename_i hi
    rw [List.getElem?_drop, flat_at enc4_len D j a i h hi]
  · rename_i hi
    rw [List.getElem?_eq_none (by rw [enc4_len]; omega)]
theorem own_raw {W : World} {B : Nat} {v : Value} {D : List AX} (h : W.ownsRow B 39 4 v D.length (flat enc4 D)) : (Kd.raw 4).R 39 W B (fun _ => True) v (D.map enc4) :=
  ⟨fun _ _ => trivial, flat enc4 D, by rw [List.length_map]; exact h, by rw [List.length_map]; exact flat_length enc4_len D, fun j row hj => by
    rw [List.getElem?_map] at hj
    obtain ⟨a, ha, rfl⟩ := Option.map_eq_some_iff.1 hj
    exact ⟨by rw [show (Kd.raw 4).sz = 4 from rfl, drop_take_flat D j a ha], by rw [show (Kd.raw 4).sz = 4 from rfl, drop_take_flat D j a ha]; rfl, by rw [show (Kd.raw 4).sz = 4 from rfl, drop_take_flat D j a ha]; exact enc4_one a⟩⟩
theorem sort_open {W : World} {B b n cap : Nat} {xs : List S39} (h : SP W B b n cap xs) :
    ∃ (D : List AX) (okj : Nat → Nat → Prop), D.map (·.1) = xs ∧ W.ownsRow B 39 4 (.slice (some ⟨b, 0, none⟩) n cap) n (flat enc4 D) ∧ (∀ i j k, okj i k → okj j k → i = j) ∧ (∀ j k, okj j k → k ≠ b) ∧ ∀ j a, D[j]? = some a → k39.M W B (okj j) a.1 (enc4 a) := by
  obtain ⟨rows, okj, ⟨_, inner, ho, hr⟩, hl, hap, hok, hM⟩ := raw_of_S h
  have hn := (Kd.S_reads' h).1
  obtain ⟨D, hDl, hD⟩ := pick_list (fun j (a : AX) => xs[j]? = some a.1 ∧ rows[j]? = some (enc4 a)) xs.length (fun j hj => by
    have hx : xs[j]? = some xs[j] := List.getElem?_eq_getElem hj
    have hrow : rows[j]? = some (rows[j]'(by omega)) := List.getElem?_eq_getElem (by omega)
    obtain ⟨v3, hopen, hR3⟩ := k39_openM (hM j _ _ hx hrow)
    obtain ⟨A, c, hv⟩ := Kd.R_slice hR3
    subst hv
    exact ⟨(xs[j], (A, c)), hx, by rw [hrow, hopen]; rfl⟩)
  have hDx : D.map (·.1) = xs := by
    apply List.ext_getElem?
    intro j
    rw [List.getElem?_map]
    by_cases hj : j < D.length
    · have := (hD j D[j] (List.getElem?_eq_getElem hj)).1
      rw [List.getElem?_eq_getElem hj, this]
      rfl
    · rw [List.getElem?_eq_none (by omega), List.getElem?_eq_none (by omega)]
      rfl
  have hin : inner = flat enc4 D := by
    have h1 : inner.length = rows.length * 4 := hr.1
    apply List.ext_getElem?
    intro t
    by_cases ht : t < D.length * 4
    · have hj : t / 4 < D.length := by omega
      have hDj := List.getElem?_eq_getElem hj
      have h2 : (inner.drop (t / 4 * 4)).take 4 = enc4 D[t / 4] := (hr.2 (t / 4) (enc4 D[t / 4]) (hD _ _ hDj).2).1
      have h3 := flat_at enc4_len D (t / 4) D[t / 4] (t % 4) hDj (by omega)
      rw [show t / 4 * 4 + t % 4 = t by omega] at h3
      rw [h3, ← h2, List.getElem?_take_of_lt (by omega), List.getElem?_drop, show t / 4 * 4 + t % 4 = t by omega]
    · rw [List.getElem?_eq_none (by omega), List.getElem?_eq_none (by rw [flat_length enc4_len]; omega)]
  refine ⟨D, okj, hDx, by rw [← hin]; rw [hl, ← hn] at ho; exact ho, hap, fun j k hk he => (hok j k hk).2 (by rw [he]; simp [Value.ownBlock]), fun j a ha => ?_⟩
  exact hM j a.1 (enc4 a) (hD j a ha).1 (hD j a ha).2
theorem sort_shut {W W' : World} {B b n cap : Nat} {D R : List AX} {okj : Nat → Nat → Prop} (hap : ∀ i j k, okj i k → okj j k → i = j) (hokb : ∀ j k, okj j k → k ≠ b) (hM : ∀ j a, D[j]? = some a → k39.M W B (okj j) a.1 (enc4 a)) (hown : W'.ownsRow B 39 4 (.slice (some ⟨b, 0, none⟩) n cap) n (flat enc4 R)) (hg : W.grownBy W' (some b))
    (hperm : R.Perm D) (hn : R.length = n) (hnd : (R.map (·.1.f0)).Nodup) : SP W' B b n cap (R.map (·.1)) := by
  subst hn
  have hraw := own_raw hown
  refine S_of_raw (d := k39) hraw (by simp) (fun j k => ∃ i, okj i k ∧ D[i]? = R[j]? ∧ j < R.length) (fun i j k h1 h2 => ?_) (fun j k h => ⟨trivial, fun he => ?_⟩) (fun _ _ => trivial) (fun j x row hx hrow => ?_)
  · obtain ⟨i1, h3, h4, h5⟩ := h1
    obtain ⟨j1, h6, h7, h8⟩ := h2
    have := hap _ _ _ h3 h6
    subst this
    rw [h4, List.getElem?_eq_getElem h5, List.getElem?_eq_getElem h8] at h7
    injection h7 with h7
    rcases Nat.lt_trichotomy i j with h | h | h
    · have := List.pairwise_iff_getElem.1 hnd i j (by simpa using h5) (by simpa using h8) h
      simp [h7] at this
    · exact h
    · have := List.pairwise_iff_getElem.1 hnd j i (by simpa using h8) (by simpa using h5) h
      simp [h7] at this
  · obtain ⟨i, h1, _⟩ := h
    exact hokb i k h1 (by simpa [Value.ownBlock] using he)
  · rw [List.getElem?_map] at hx hrow
    obtain ⟨a, ha, rfl⟩ := Option.map_eq_some_iff.1 hx
    rw [ha] at hrow
    injection hrow with hrow
    subst hrow
    have hmem : a ∈ D := hperm.mem_iff.1 (List.mem_of_getElem? ha)
    obtain ⟨i, hi⟩ := List.mem_iff_getElem?.1 hmem
    have hjl := (List.getElem?_eq_some_iff.1 ha).1
    refine k39.M_mono (fun k hk => ⟨i, hk, by rw [hi, ha], hjl⟩) (Kd.M_grown (hM i a hi) hg (fun k hk he => hokb i k hk (by injection he)))
theorem insP_names {l : List S39} {p : S39} (h : rightB l = true) (hp : p.f0 ∉ namesP l) : (namesP (insP p l)).Nodup := by
  rw [namesP, List.Nodup, List.pairwise_map]
  exact (insP_pair p l (right_pairP h) hp).imp fun h => ltS_ne h
theorem sort_calls {W : World} {B b n cap : Nat} {l : List S39} {p : S39} (hS : SP W B b n cap (l ++ [p])) (h : rightB l = true) (hp : p.f0 ∉ namesP l) :
    Calls Tryz.prog 34 #[.slice (some ⟨b, 0, none⟩) n cap, .func (.func 35) #[] #[]] W fun e w' => e = .returned (.tuple #[]) ∧ SP w' B b n cap (insP p l) ∧ W.grownBy w' (some b) := by
  obtain ⟨D, okj, hDx, hown, hap, hokb, hM⟩ := sort_open hS
  have hn := (Kd.S_reads' hS).1
  have hDl : D.length = n := by rw [hn, ← hDx, List.length_map]
  obtain ⟨hH, hbw⟩ := holds_of_own' enc4_len (by decide) hown
  have hsz : D.toArray.size < 4611686018427387904 := by
    have := (right_len h).1
    rw [List.size_toArray, hDl, hn]
    simp
    omega
  have hsort := AnyQ.slices_SortFunc Tryz.sortProx 4 agg_prox size_prox enc4 enc4_len enc4_one cmpN swo_cmpN 35 #[] b 0 cap D.toArray W (enters_of Tryz.func35 (by kernel_rfl) rfl) (add1_lays b 0 _ W) hH hbw hsz
  have hsort2 : Calls Tryz.prog 34 #[.slice (some ⟨b, 0, none⟩) n cap, .func (.func 35) #[] #[]] W fun e w' => e = .returned (.tuple #[]) ∧ ∃ d' m os, Go.Sort.PermIn 0 D.toArray.size D.toArray d' ∧ Go.Sort.SortedIn (ltOf cmpN) 0 D.toArray.size d' ∧ w' = sortWorldK enc4 4 W b 0 m d' os := by
    rw [← hDl]; exact hsort
  refine hsort2.mono ?_
  rintro e w' ⟨rfl, d', m, os, hperm, hsorted, rfl⟩
  obtain ⟨hps, _, hpp⟩ := hperm
  have hpp2 : d'.toList.Perm D := by
    have e1 : d'.extract 0 D.toArray.size = d' := by rw [← hps]; simp
    have e2 : D.toArray.extract 0 D.toArray.size = D.toArray := by simp
    rw [e1, e2] at hpp
    simpa using hpp
  have hso : ∀ (i j : Nat) (x y : AX), i < j → d'.toList[i]? = some x → d'.toList[j]? = some y → ltS y.1.f0 x.1.f0 = false := by
    intro i j x y hij hi hj
    obtain ⟨hil, rfl⟩ := List.getElem?_eq_some_iff.1 hi
    obtain ⟨hjl, rfl⟩ := List.getElem?_eq_some_iff.1 hj
    rw [Array.length_toList] at hil hjl
    have := hsorted i j (by omega) hij (by omega)
    rw [getElem!_pos _ i hil, getElem!_pos _ j hjl, ltOf_cmpN] at this
    simpa using this
  have hins := sorted_ins h hp hDx hpp2 hso
  have hlen : d'.toList.length = D.length := hpp2.length_eq
  obtain ⟨ho2, hg2⟩ := sorted_own enc4_len (by decide) hown hlen m os
  have hnd : (d'.toList.map (·.1.f0)).Nodup := by
    have := insP_names h hp
    rw [← hins, namesP, List.map_map] at this
    exact this
  refine ⟨rfl, ?_, hg2⟩
  rw [← hins]
  exact sort_shut hap hokb hM ho2 hg2 hpp2 (by rw [hlen, hDl]) hnd
set_option maxRecDepth 100000 in
set_option maxHeartbeats 2000000 in
theorem names_Add.calls (A0 : Option Addr) (c0 : Nat) (l0 : List S39) (s : ByteArray) (n : Int) (r1 : List S39) (r2 : Int) (w : World) (hr0 : Kd.C k39 w A0 l0.length l0) (hc0 : l0.length ≤ c0) (h : names_Add.f l0 s n = some (r1, r2)) :
    Calls Tryz.prog 15 #[.slice A0 l0.length c0, .string s, .int .i64 n] w fun e w' => ∃ v0_ : Value, e = .returned (.tuple #[v0_, .int .i64 r2]) ∧ Kd.S k39 39 w' w.heap.size (fun _ => True) v0_ r1 ∧ Below w.heap.size w w' := by
  unfold names_Add.f at h
  split at h
  · rename_i hm
    have hres := Option.some.inj h
    clear h
    have HRI := Lib.hid (right_calls A0 c0 l0 w hr0 hc0 hm)
    unfold addOf at hres
    cases hright : rightB l0
    · rw [hright] at HRI hres
      rw [if_neg (by simp)] at hres
      obtain ⟨rfl, rfl⟩ := Prod.mk.inj hres
      generalize l0.length = k at *
      clear hr0 hc0 hres
      go_enter Tryz.func15, Tryz.ntmps15
      go_wp2_with (first
        | (go_at_call 13; refine HRI.out.mono ?_; rintro e w1 ⟨rfl, hb⟩; have HB1 := Lib.hid hb; clear hb)
        | fail)
      go_ret2
      exact ⟨_, rfl, Kd.S_nil _ _ _ _ _, HB1.out⟩
    · rw [hright] at HRI hres
      rw [if_pos rfl] at hres
      have hsm := right_small hright
      have HO := Lib.hid (fun W (hb : Below w.heap.size w W) => names_own.calls A0 c0 l0 l0 W (Kd.C_below hr0 hb) hc0 (by rw [names_own.f, if_pos hsm]))
      have HAT := Lib.hid (fun W (hb : Below w.heap.size w W) => names_at_api_Proxy.calls A0 c0 l0 s _ W (Kd.C_below hr0 hb) hc0 rfl)
      have HNM := Lib.hid (fun W => toxic_Name.calls s _ W rfl)
      have HMY := Lib.hid (fun W => names_may.calls n (mayB n) W (by
        unfold names_may.f mayB
        by_cases h1 : 1 ≤ n
        · rw [if_pos (show n ≥ 1 from h1), decide_eq_true h1, Bool.true_and]
        · rw [if_neg (show ¬ n ≥ 1 from h1), decide_eq_false h1, Bool.false_and]))
      have hp0 : place (l0.map (·.f0)) s = place (namesP l0) s := rfl
      rw [hp0] at HAT
      have hl8 := (right_len hright).1
      cases hname : nameOk s
      · rw [hname] at HNM hres
        rw [if_neg (by simp)] at hres
        obtain ⟨rfl, rfl⟩ := Prod.mk.inj hres
        generalize hn : l0.length = k at *
        have HN := Lib.hid hn
        clear hr0 hc0 hres hsm hp0 hn hright
        go_enter Tryz.func15, Tryz.ntmps15
        go_wp2_with (first
          | (go_at_call 13; refine HRI.out.mono ?_; rintro e w1 ⟨rfl, hb⟩; have HB1 := Lib.hid hb; clear hb)
          | (go_at_call 29; refine (HNM.out _).mono ?_; rintro e w2 ⟨rfl, hb⟩; have HB2 := Lib.hid (HB1.out.trans (hb.mono HB1.out.size)); clear hb)
          | (go_at_call 30; refine (HO.out _ HB2.out).mono ?_; rintro e w5 ⟨v, rfl, hS, hb⟩; obtain ⟨A, c, hv⟩ := Kd.S_slice hS; rw [HN.out] at hv; subst hv; have HS := Lib.hid (Kd.S_lower hS HB2.out.size); have HB5 := Lib.hid (HB2.out.trans (hb.mono HB2.out.size)); clear hS hb)
          | fail)
        go_ret2
        exact ⟨_, rfl, HS.out, HB5.out⟩
      · rw [hname] at HNM hres
        rw [if_pos rfl] at hres
        by_cases hpos : 0 ≤ place (namesP l0) s
        · rw [if_pos hpos] at hres
          obtain ⟨rfl, rfl⟩ := Prod.mk.inj hres
          generalize place (namesP l0) s = p at *
          generalize hn : l0.length = k at *
          have HN := Lib.hid hn
          clear hr0 hc0 hres hsm hp0 hn hright
          go_enter Tryz.func15, Tryz.ntmps15
          go_wp2_with (first
            | (go_at_call 13; refine HRI.out.mono ?_; rintro e w1 ⟨rfl, hb⟩; have HB1 := Lib.hid hb; clear hb)
            | (go_at_call 29; refine (HNM.out _).mono ?_; rintro e w2 ⟨rfl, hb⟩; have HB2 := Lib.hid (HB1.out.trans (hb.mono HB1.out.size)); clear hb)
            | (go_at_call 31; refine (HAT.out _ HB2.out).mono ?_; rintro e w3 ⟨rfl, hb⟩; have HB3 := Lib.hid (HB2.out.trans (hb.mono HB2.out.size)); clear hb)
            | (go_at_call 30; refine (HO.out _ HB3.out).mono ?_; rintro e w5 ⟨v, rfl, hS, hb⟩; obtain ⟨A, c, hv⟩ := Kd.S_slice hS; rw [HN.out] at hv; subst hv; have HS := Lib.hid (Kd.S_lower hS HB3.out.size); have HB5 := Lib.hid (HB3.out.trans (hb.mono HB3.out.size)); clear hS hb)
            | fail)
          go_ret2
          exact ⟨_, rfl, HS.out, HB5.out⟩
        · rw [if_neg hpos] at hres
          have hnot : s ∉ namesP l0 := place_neg.1 (by omega)
          cases hmay : mayB n
          · rw [hmay] at HMY hres
            rw [if_neg (by simp)] at hres
            obtain ⟨rfl, rfl⟩ := Prod.mk.inj hres
            generalize place (namesP l0) s = p at *
            generalize hn : l0.length = k at *
            have HN := Lib.hid hn
            clear hr0 hc0 hres hsm hp0 hn hright hnot
            go_enter Tryz.func15, Tryz.ntmps15
            go_wp2_with (first
              | (go_at_call 13; refine HRI.out.mono ?_; rintro e w1 ⟨rfl, hb⟩; have HB1 := Lib.hid hb; clear hb)
              | (go_at_call 29; refine (HNM.out _).mono ?_; rintro e w2 ⟨rfl, hb⟩; have HB2 := Lib.hid (HB1.out.trans (hb.mono HB1.out.size)); clear hb)
              | (go_at_call 31; refine (HAT.out _ HB2.out).mono ?_; rintro e w3 ⟨rfl, hb⟩; have HB3 := Lib.hid (HB2.out.trans (hb.mono HB2.out.size)); clear hb)
              | (go_at_call 33; refine (HMY.out _).mono ?_; rintro e w4 ⟨rfl, hd⟩; have HB4 := Lib.hid (HB3.out.trans (hd.below.mono HB3.out.size)); clear hd)
              | (go_at_call 30; refine (HO.out _ HB4.out).mono ?_; rintro e w5 ⟨v, rfl, hS, hb⟩; obtain ⟨A, c, hv⟩ := Kd.S_slice hS; rw [HN.out] at hv; subst hv; have HS := Lib.hid (Kd.S_lower hS HB4.out.size); have HB5 := Lib.hid (HB4.out.trans (hb.mono HB4.out.size)); clear hS hb)
              | fail)
            go_ret2
            exact ⟨_, rfl, HS.out, HB5.out⟩
          · rw [hmay] at HMY hres
            rw [if_pos rfl] at hres
            by_cases hfull : 8 ≤ l0.length
            · rw [if_pos hfull] at hres
              obtain ⟨rfl, rfl⟩ := Prod.mk.inj hres
              generalize place (namesP l0) s = p at *
              have q1 : (8 : Int) ≤ (l0.length : Int) := by omega
              generalize hn : l0.length = k at *
              have HN := Lib.hid hn
              clear hr0 hc0 hres hsm hp0 hn hright hnot
              go_enter Tryz.func15, Tryz.ntmps15
              go_wp2_with (first
                | (go_at_call 13; refine HRI.out.mono ?_; rintro e w1 ⟨rfl, hb⟩; have HB1 := Lib.hid hb; clear hb)
                | (go_at_call 29; refine (HNM.out _).mono ?_; rintro e w2 ⟨rfl, hb⟩; have HB2 := Lib.hid (HB1.out.trans (hb.mono HB1.out.size)); clear hb)
                | (go_at_call 31; refine (HAT.out _ HB2.out).mono ?_; rintro e w3 ⟨rfl, hb⟩; have HB3 := Lib.hid (HB2.out.trans (hb.mono HB2.out.size)); clear hb)
                | (go_at_call 33; refine (HMY.out _).mono ?_; rintro e w4 ⟨rfl, hd⟩; have HB4 := Lib.hid (HB3.out.trans (hd.below.mono HB3.out.size)); clear hd)
                | (go_at_call 30; refine (HO.out _ HB4.out).mono ?_; rintro e w5 ⟨v, rfl, hS, hb⟩; obtain ⟨A, c, hv⟩ := Kd.S_slice hS; rw [HN.out] at hv; subst hv; have HS := Lib.hid (Kd.S_lower hS HB4.out.size); have HB5 := Lib.hid (HB4.out.trans (hb.mono HB4.out.size)); clear hS hb)
                | fail)
              go_ret2
              exact ⟨_, rfl, HS.out, HB5.out⟩
            · rw [if_neg hfull] at hres
              obtain ⟨rfl, rfl⟩ := Prod.mk.inj hres
              generalize place (namesP l0) s = p at *
              have q1 : ¬ ((8 : Int) ≤ (l0.length : Int)) := by omega
              have HSO := Lib.hid (fun W b k cap hS => @sort_calls W w.heap.size b k cap l0 ⟨s, true, n, []⟩ hS hright hnot)
              generalize hn : l0.length = k at *
              have HN := Lib.hid hn
              clear hr0 hc0 hres hsm hp0 hn hright hnot
              go_enter Tryz.func15, Tryz.ntmps15
              go_wp2_with (first
                | (go_at_call 13; refine HRI.out.mono ?_; rintro e w1 ⟨rfl, hb⟩; have HB1 := Lib.hid hb; clear hb)
                | (go_at_call 29; refine (HNM.out _).mono ?_; rintro e w2 ⟨rfl, hb⟩; have HB2 := Lib.hid (HB1.out.trans (hb.mono HB1.out.size)); clear hb)
                | (go_at_call 31; refine (HAT.out _ HB2.out).mono ?_; rintro e w3 ⟨rfl, hb⟩; have HB3 := Lib.hid (HB2.out.trans (hb.mono HB2.out.size)); clear hb)
                | (go_at_call 33; refine (HMY.out _).mono ?_; rintro e w4 ⟨rfl, hd⟩; have HB4 := Lib.hid (HB3.out.trans (hd.below.mono HB3.out.size)); clear hd)
                | (go_at_call 30; refine (HO.out _ HB4.out).mono ?_; rintro e w5 ⟨v, rfl, hS, hb⟩; obtain ⟨A, c, hv⟩ := Kd.S_slice hS; rw [HN.out] at hv; subst hv; have HS := Lib.hid (Kd.S_lower hS HB4.out.size); have HB5 := Lib.hid (HB4.out.trans (hb.mono HB4.out.size)); clear hS hb)
                | (at_builtin; refine nhold ?_)
                | fail)
              refine NHold.go ?_
              have hk := HN.out
              refine Kd.S_append (w0 := w) k39 w.heap.size rfl (.tmp 39) (.tmp 43) 22 39 _ 56 rfl Tryz.underlying22 info_prox rfl (by decide) (by decide) (.slice A k c) l0 ⟨s, true, n, []⟩ [.string s, .bool true, .int .i64 n, .slice none 0 0] (fun _ => True) (fun _ => False) rfl rfl
                (k39_mkM _ _ _ (⟨s, true, n, []⟩ : S39) (Kd.R_nil _ _ _ _ _)) (fun _ h => h.elim) (fun _ _ => trivial) (Kd.S_mono HS.out (fun _ h => ⟨h, fun x => x⟩)) HB5.out HB5.out.size (by omega) ?_
              intro v1 w6 hS1 hB1 hg hat
              obtain ⟨b, cap, hv, hbb, _⟩ := Kd.S_form hS1 (by simp)
              subst hv
              have HS6 := Lib.hid hS1
              have HB6 := Lib.hid hB1
              have HBB := Lib.hid hbb
              clear hS1 hB1 hg hat hbb hk
              generalize (l0 ++ [(⟨s, true, n, []⟩ : S39)]).length = kk at *
              go_wp2_with (go_at_call 34; refine (HSO.out _ b kk cap HS6.out).mono ?_; rintro e w7 ⟨rfl, hS7, hg7⟩; have HS7 := Lib.hid hS7; have HG7 := Lib.hid hg7; clear hS7 hg7)
              go_ret2
              exact ⟨_, rfl, HS7.out, HB6.out.grown HG7.out HB6.out.size (fun k hk => by injection hk with hk; have := HBB.out; omega)⟩
  · cases h
end Go.Proofs.YtlglbpjccpdloaaGreat.Ext
set_option linter.unusedVariables false
set_option linter.unusedSimpArgs false
namespace Go.Proofs.YtlglbpjccpdloaaGreat.Ext
open Go.RowKit Go.Proofs.YtlglbpjccpdloaaGreat.PNamA Go.Proofs.YtlglbpjccpdloaaGreat.Tox Go.Proofs.YtlglbpjccpdloaaGreat.ToxZ Go.Proofs.YtlglbpjccpdloaaGreatW.PrintWords Go.Proofs.YtlglbpjccpdloaaGreatW.PrintLast
theorem tox_set {W : World} {B : Nat} {ok : Nat → Prop} {g n c k : Nat} {l : List S24} (t : S24) (h : RT W B ok (.slice (some ⟨g, 0, none⟩) n c) l) (hk : k < n) :
    RT (W.setCells g (k * 6) [.string t.f0, .int .i64 t.f1, .bool t.f2, .int .i64 t.f3, .int .i64 t.f4, .int .i64 t.f5]) B ok (.slice (some ⟨g, 0, none⟩) n c) (l.set k t) ∧ W.grownBy (W.setCells g (k * 6) [.string t.f0, .int .i64 t.f1, .bool t.f2, .int .i64 t.f3, .int .i64 t.f4, .int .i64 t.f5]) (some g) := by
  obtain ⟨cc, hcl, hM, hcc, _⟩ := Kd.R_elem h z24 (k : Int) (by omega) (by omega)
  obtain rfl := k24_openM hM
  have h2 := Kd.R_seg (okp := fun _ => False) h (k : Int) (by omega) (by omega) (seg := [.string t.f0, .int .i64 t.f1, .bool t.f2, .int .i64 t.f3, .int .i64 t.f4, .int .i64 t.f5]) (j := 0) (x' := t) hcl hcc (Nat.le_refl 6) (k24_mkM _ _ _ _) (fun _ h => h.elim)
  rw [Int.toNat_natCast] at h2
  exact h2
theorem tox_cells {W : World} {B : Nat} {ok : Nat → Prop} {g n c k : Nat} {l : List S24} {y : S24} (h : RT W B ok (.slice (some ⟨g, 0, none⟩) n c) l) (hy : l[k]? = some y) :
    W.cell? ⟨g, k * 6, none⟩ = some (.string y.f0) ∧ W.cell? ⟨g, k * 6 + 1, none⟩ = some (.int .i64 y.f1) ∧ W.cell? ⟨g, k * 6 + 2, none⟩ = some (.bool y.f2) ∧ W.cell? ⟨g, k * 6 + 3, none⟩ = some (.int .i64 y.f3) ∧ W.cell? ⟨g, k * 6 + 4, none⟩ = some (.int .i64 y.f4) ∧ W.cell? ⟨g, k * 6 + 5, none⟩ = some (.int .i64 y.f5) ∧ ∀ j, W.frozen? ⟨g, k * 6 + j, none⟩ = false := by
  have hn := (Kd.R_reads' h).1
  have hk : k < l.length := (List.getElem?_eq_some_iff.1 hy).1
  obtain ⟨cc, hcl, hM, hcc, hfr⟩ := Kd.R_elem h z24 (k : Int) (by omega) (by omega)
  rw [Int.toNat_natCast, List.getD_eq_getElem?_getD, hy] at hM
  obtain rfl := k24_openM hM
  exact ⟨hcc 0 _ rfl, hcc 1 _ rfl, hcc 2 _ rfl, hcc 3 _ rfl, hcc 4 _ rfl, hcc 5 _ rfl, hfr⟩
theorem set_fin {W w2 : World} {B b n cap i g ln c k : Nat} {xs : List S39} {x : S39} {oki : Nat → Prop} {c0 c1 c2 : Value} (t : S24) (hB : B ≤ W.heap.size) (hb : Below W.heap.size W w2) (hBg : B ≤ g) (hR : RT W B oki (.slice (some ⟨g, 0, none⟩) ln c) x.f3) (hH : HP W B b n cap xs i oki [.string x.f0, .bool x.f1, .int .i64 x.f2, .slice (some ⟨g, 0, none⟩) ln c]) (hgok : oki g) (hk : k < ln) (m : Nat) :
    SP (((((((w2.drewN m).setCell ⟨g, k * 6, none⟩ (.string t.f0)).setCell ⟨g, k * 6 + 1, none⟩ (.int .i64 t.f1)).setCell ⟨g, k * 6 + 2, none⟩ (.bool t.f2)).setCell ⟨g, k * 6 + 3, none⟩ (.int .i64 t.f3)).setCell ⟨g, k * 6 + 4, none⟩ (.int .i64 t.f4)).setCell ⟨g, k * 6 + 5, none⟩ (.int .i64 t.f5)) B b n cap (xs.set i ⟨x.f0, x.f1, x.f2, x.f3.set k t⟩) ∧
    Below B W (((((((w2.drewN m).setCell ⟨g, k * 6, none⟩ (.string t.f0)).setCell ⟨g, k * 6 + 1, none⟩ (.int .i64 t.f1)).setCell ⟨g, k * 6 + 2, none⟩ (.bool t.f2)).setCell ⟨g, k * 6 + 3, none⟩ (.int .i64 t.f3)).setCell ⟨g, k * 6 + 4, none⟩ (.int .i64 t.f4)).setCell ⟨g, k * 6 + 5, none⟩ (.int .i64 t.f5)) := by
  obtain ⟨h1, h2⟩ := tox_set t (Kd.R_drewN (Kd.R_below hR hb) m) hk
  have hH2 := Kd.H_grown (Kd.H_drewN (Kd.H_below hH hb) m) h2 (fun k hk => by injection hk with hk; rw [← hk]; exact hgok)
  have h3 := Kd.H_back hH2 (x' := ⟨x.f0, x.f1, x.f2, x.f3.set k t⟩) (okp := oki) (k39_mkM _ _ _ (⟨x.f0, x.f1, x.f2, x.f3.set k t⟩ : S39) h1) (fun _ h => h)
  rw [Int.toNat_natCast] at h3
  refine ⟨h3, ?_⟩
  have hb2 : Below B W (w2.drewN m) := pw_below_drewN (hb.mono hB) m
  exact ((((((hb2.setCell hBg _).setCell hBg _).setCell hBg _).setCell hBg _).setCell hBg _).setCell hBg _)
set_option maxRecDepth 100000 in
set_option maxHeartbeats 2000000 in
theorem settoxic_clo {W : World} {B b n cap i bo : Nat} {xs : List S39} {x : S39} (t : S24) (hB : B ≤ W.heap.size) (h : SP W B b n cap xs) (hx : xs[i]? = some x) (h8 : x.f3.length ≤ 1000000)
    (o0 : W.cell? ⟨bo, 0, none⟩ = some (.string t.f0)) (o1 : W.cell? ⟨bo, 1, none⟩ = some (.int .i64 t.f1)) (o2 : W.cell? ⟨bo, 2, none⟩ = some (.bool t.f2)) (o3 : W.cell? ⟨bo, 3, none⟩ = some (.int .i64 t.f3)) (o4 : W.cell? ⟨bo, 4, none⟩ = some (.int .i64 t.f4)) (o5 : W.cell? ⟨bo, 5, none⟩ = some (.int .i64 t.f5)) (hbo : bo < B) :
    Calls Tryz.prog 53 #[.pointer (some ⟨b, i * 4, none⟩), .pointer (some ⟨bo, 0, none⟩)] W (CloP B b n cap xs i (setT t x) W) := by
  obtain ⟨hBb, hbw⟩ := SP_b h
  obtain ⟨oki, A, c, hR, x0, x1, x2, x3, hfr, hok, hH⟩ := elemP h hx
  have HAT := Lib.hid (fun W' (hb : Below W.heap.size W W') => names_at_api_Toxic.calls A c x.f3 t.f0 _ W' (Kd.C_below (Kd.R_reads' hR).2.2 hb) (Kd.R_reads' hR).2.1 rfl)
  have HCK := Lib.hid (fun W' => toxic_Check.calls t.f0 t.f1 t.f2 t.f3 t.f4 t.f5 (ckT t) W' rfl)
  have hpl := place_lt (l := namesT x.f3) (s := t.f0)
  have HN : Hid (∀ W' (r : Int), Below W.heap.size W W' → CloP B b n cap xs i (x, r) W (.returned (.int .i64 r)) W') := Lib.hid (fun W' r hb => ⟨rfl, by rw [set_self hx]; exact Kd.S_below h hb, hb.mono hB⟩)
  have HP := Lib.hid (show place (x.f3.map (·.f0)) t.f0 = place (namesT x.f3) t.f0 from rfl)
  have HB0 := Lib.hid (Below.refl W.heap.size W)
  have hin : i < n := by have := (Kd.S_reads' h).1; have := (List.getElem?_eq_some_iff.1 hx).1; omega
  rw [HP.out] at HAT
  unfold setT
  by_cases hck : ckT t = 0
  · rw [if_neg (by simpa using hck)]
    rw [hck] at HCK
    by_cases hneg : place (namesT x.f3) t.f0 < 0
    · rw [if_pos hneg]
      generalize place (namesT x.f3) t.f0 = p at *
      clear hR hok hH hfr h hx HP hck
      go_enter Tryz.func53, Tryz.ntmps53
      go_wp2_with (go_at_call 39; refine (HCK.out _).mono ?_; rintro e w1 ⟨rfl, hcl⟩; have HB1 := Lib.hid hcl; have a0 := nm_cell_at hcl o0; have a3 := nm_cell_at hcl x3; clear hcl)
      go_region_held3 (fun W' => W'.cell? ⟨b, i * 4 + 3, none⟩ = some (.slice A x.f3.length c) ∧ W'.cell? ⟨bo, 0, none⟩ = some (.string t.f0) ∧ Below W.heap.size W W')
        (first
          | exact ⟨a3, a0, HB1.out.drew⟩
          | exact ⟨nm_cell_at HBQ.out x3, nm_cell_at HBQ.out o0, HBQ.out⟩
          | go_keep)
        ((go_at_call 40; obtain ⟨_, _, hq⟩ := ‹_ ∧ _ ∧ Below W.heap.size W _›; refine (HAT.out _ hq).mono ?_; rintro e w2 ⟨rfl, hcl⟩; have HBQ := Lib.hid (hq.trans (hcl.mono hq.size)); clear hcl hq))
      all_goals
        go_wp2_with fail
        go_ret
        exact HN.out _ _ HBQ.out
    · rw [if_neg hneg]
      obtain ⟨k, hk⟩ : ∃ k : Nat, place (namesT x.f3) t.f0 = (k : Int) := ⟨(place (namesT x.f3) t.f0).toNat, by omega⟩
      rw [hk] at HAT hpl ⊢
      rw [Int.toNat_natCast]
      have hkl : k < x.f3.length := by have := hpl.1; simp [namesT] at this; exact this
      obtain ⟨y, hy⟩ : ∃ y, x.f3[k]? = some y := ⟨_, List.getElem?_eq_getElem hkl⟩
      have hgd : x.f3.getD k z24 = y := by rw [List.getD_eq_getElem?_getD, hy]; rfl
      rw [hgd]
      obtain ⟨g, cc, hv, hBg, hgw, _⟩ := Kd.R_form hR (by omega)
      have hA : A = some ⟨g, 0, none⟩ := by injection hv
      subst hA
      have hgok : oki g := hR.1 g (by simp [Value.ownBlock])
      have hgb : g ≠ b := hok g hgok
      have hgo : g ≠ bo := by omega
      obtain ⟨t0, t1, t2, t3, t4, t5, tfr⟩ := tox_cells hR hy
      have f0 := tfr 0
      have f1 := tfr 1
      have f2 := tfr 2
      have f3 := tfr 3
      have f4 := tfr 4
      have f5 := tfr 5
      rw [Nat.add_zero] at f0
      have HH := Lib.hid (And.intro hR (And.intro hH (And.intro hok (And.intro hgok (And.intro h hx)))))
      have hk0 : (0 : Int) ≤ (k : Int) := Int.natCast_nonneg _
      have hk1 : (k : Int) < (x.f3.length : Int) := by omega
      have q0 : ¬ ((k : Int) < 0) := by omega
      generalize x.f3.length = ln at *
      clear hR hok hH hfr h hx HP hv hk hneg hgok hck hgd tfr
      by_cases hkind : y.f1 = t.f1
      · by_cases hup : y.f2 = t.f2
        · rw [if_neg (by simp [hkind, hup])]
          have q1 : (y.f1 != t.f1) = false := by simp [hkind]
          have q2 : (y.f2 != t.f2) = false := by simp [hup]
          have q3 : (!(y.f2 == t.f2)) = false := by simp [hup]
          have HKU := Lib.hid (And.intro hkind hup)
          clear hkind hup
          go_enter Tryz.func53, Tryz.ntmps53
          go_wp2_with (go_at_call 39; refine (HCK.out _).mono ?_; rintro e w1 ⟨rfl, hcl⟩; have HB1 := Lib.hid hcl; have a0 := nm_cell_at hcl o0; have a3 := nm_cell_at hcl x3; clear hcl)
          go_region_held3 (fun W' => W'.cell? ⟨b, i * 4 + 3, none⟩ = some (.slice (some ⟨g, 0, none⟩) ln c) ∧ W'.cell? ⟨bo, 0, none⟩ = some (.string t.f0) ∧ Below W.heap.size W W')
            (first
              | exact ⟨a3, a0, HB1.out.drew⟩
              | exact ⟨nm_cell_at HBQ.out x3, nm_cell_at HBQ.out o0, HBQ.out⟩
              | go_keep)
            ((go_at_call 40; obtain ⟨_, _, hq⟩ := ‹_ ∧ _ ∧ Below W.heap.size W _›; refine (HAT.out _ hq).mono ?_; rintro e w2 ⟨rfl, hcl⟩; have HBQ := Lib.hid (hq.trans (hcl.mono hq.size)); clear hcl hq))
          all_goals
            have z3 := nm_cell_at HBQ.out x3
            have s0 := nm_cell_at HBQ.out o0
            have s1 := nm_cell_at HBQ.out o1
            have s2 := nm_cell_at HBQ.out o2
            have s3 := nm_cell_at HBQ.out o3
            have s4 := nm_cell_at HBQ.out o4
            have s5 := nm_cell_at HBQ.out o5
            have u0 := nm_cell_at HBQ.out t0
            have u1 := nm_cell_at HBQ.out t1
            have u2 := nm_cell_at HBQ.out t2
            have u3 := nm_cell_at HBQ.out t3
            have u4 := nm_cell_at HBQ.out t4
            have u5 := nm_cell_at HBQ.out t5
            have v0 := (HBQ.out.frozen (p := ⟨g, k * 6, none⟩) hgw).trans f0
            have v1 := (HBQ.out.frozen (p := ⟨g, k * 6 + 1, none⟩) hgw).trans f1
            have v2 := (HBQ.out.frozen (p := ⟨g, k * 6 + 2, none⟩) hgw).trans f2
            have v3 := (HBQ.out.frozen (p := ⟨g, k * 6 + 3, none⟩) hgw).trans f3
            have v4 := (HBQ.out.frozen (p := ⟨g, k * 6 + 4, none⟩) hgw).trans f4
            have v5 := (HBQ.out.frozen (p := ⟨g, k * 6 + 5, none⟩) hgw).trans f5
            go_wp2_with fail
            go_quiet (fail)
            go_wp2_with fail
            go_region
            all_goals go_wp2_with fail
            all_goals
              go_ret
              obtain ⟨hR, hH, hok, hgok, hS, hx⟩ := HH.out
              have hf := fun m => set_fin (c0 := .nilIface) (c1 := .nilIface) (c2 := .nilIface) (k := k) t hB HBQ.out hBg hR hH hgok hkl m
              exact ⟨rfl, (hf _).1, (hf _).2⟩
        · rw [if_pos (.inr hup)]
          have q1 : (y.f1 != t.f1) = false := by simp [hkind]
          have q2 : (y.f2 != t.f2) = true := by simp [hup]
          have q3 : (!(y.f2 == t.f2)) = true := by simp [hup]
          have HKU := Lib.hid (And.intro hkind hup)
          clear hkind hup
          go_enter Tryz.func53, Tryz.ntmps53
          go_wp2_with (go_at_call 39; refine (HCK.out _).mono ?_; rintro e w1 ⟨rfl, hcl⟩; have HB1 := Lib.hid hcl; have a0 := nm_cell_at hcl o0; have a3 := nm_cell_at hcl x3; clear hcl)
          go_region_held3 (fun W' => W'.cell? ⟨b, i * 4 + 3, none⟩ = some (.slice (some ⟨g, 0, none⟩) ln c) ∧ W'.cell? ⟨bo, 0, none⟩ = some (.string t.f0) ∧ Below W.heap.size W W')
            (first
              | exact ⟨a3, a0, HB1.out.drew⟩
              | exact ⟨nm_cell_at HBQ.out x3, nm_cell_at HBQ.out o0, HBQ.out⟩
              | go_keep)
            ((go_at_call 40; obtain ⟨_, _, hq⟩ := ‹_ ∧ _ ∧ Below W.heap.size W _›; refine (HAT.out _ hq).mono ?_; rintro e w2 ⟨rfl, hcl⟩; have HBQ := Lib.hid (hq.trans (hcl.mono hq.size)); clear hcl hq))
          all_goals
            have z3 := nm_cell_at HBQ.out x3
            have s0 := nm_cell_at HBQ.out o0
            have s1 := nm_cell_at HBQ.out o1
            have s2 := nm_cell_at HBQ.out o2
            have s3 := nm_cell_at HBQ.out o3
            have s4 := nm_cell_at HBQ.out o4
            have s5 := nm_cell_at HBQ.out o5
            have u0 := nm_cell_at HBQ.out t0
            have u1 := nm_cell_at HBQ.out t1
            have u2 := nm_cell_at HBQ.out t2
            have u3 := nm_cell_at HBQ.out t3
            have u4 := nm_cell_at HBQ.out t4
            have u5 := nm_cell_at HBQ.out t5
            have v0 := (HBQ.out.frozen (p := ⟨g, k * 6, none⟩) hgw).trans f0
            have v1 := (HBQ.out.frozen (p := ⟨g, k * 6 + 1, none⟩) hgw).trans f1
            have v2 := (HBQ.out.frozen (p := ⟨g, k * 6 + 2, none⟩) hgw).trans f2
            have v3 := (HBQ.out.frozen (p := ⟨g, k * 6 + 3, none⟩) hgw).trans f3
            have v4 := (HBQ.out.frozen (p := ⟨g, k * 6 + 4, none⟩) hgw).trans f4
            have v5 := (HBQ.out.frozen (p := ⟨g, k * 6 + 5, none⟩) hgw).trans f5
            go_wp2_with fail
            go_quiet (fail)
            go_wp2_with fail
            go_ret
            exact HN.out _ _ (pw_below_drewN HBQ.out _)
      · rw [if_pos (.inl hkind)]
        have q1 : (y.f1 != t.f1) = true := by simp [hkind]
        have q3 : (!(y.f1 == t.f1)) = true := by simp [hkind]
        have HKU := Lib.hid hkind
        clear hkind
        go_enter Tryz.func53, Tryz.ntmps53
        go_wp2_with (go_at_call 39; refine (HCK.out _).mono ?_; rintro e w1 ⟨rfl, hcl⟩; have HB1 := Lib.hid hcl; have a0 := nm_cell_at hcl o0; have a3 := nm_cell_at hcl x3; clear hcl)
        go_region_held3 (fun W' => W'.cell? ⟨b, i * 4 + 3, none⟩ = some (.slice (some ⟨g, 0, none⟩) ln c) ∧ W'.cell? ⟨bo, 0, none⟩ = some (.string t.f0) ∧ Below W.heap.size W W')
          (first
            | exact ⟨a3, a0, HB1.out.drew⟩
            | exact ⟨nm_cell_at HBQ.out x3, nm_cell_at HBQ.out o0, HBQ.out⟩
            | go_keep)
          ((go_at_call 40; obtain ⟨_, _, hq⟩ := ‹_ ∧ _ ∧ Below W.heap.size W _›; refine (HAT.out _ hq).mono ?_; rintro e w2 ⟨rfl, hcl⟩; have HBQ := Lib.hid (hq.trans (hcl.mono hq.size)); clear hcl hq))
        all_goals
          have z3 := nm_cell_at HBQ.out x3
          have s0 := nm_cell_at HBQ.out o0
          have s1 := nm_cell_at HBQ.out o1
          have s2 := nm_cell_at HBQ.out o2
          have s3 := nm_cell_at HBQ.out o3
          have s4 := nm_cell_at HBQ.out o4
          have s5 := nm_cell_at HBQ.out o5
          have u0 := nm_cell_at HBQ.out t0
          have u1 := nm_cell_at HBQ.out t1
          have u2 := nm_cell_at HBQ.out t2
          have u3 := nm_cell_at HBQ.out t3
          have u4 := nm_cell_at HBQ.out t4
          have u5 := nm_cell_at HBQ.out t5
          have v0 := (HBQ.out.frozen (p := ⟨g, k * 6, none⟩) hgw).trans f0
          have v1 := (HBQ.out.frozen (p := ⟨g, k * 6 + 1, none⟩) hgw).trans f1
          have v2 := (HBQ.out.frozen (p := ⟨g, k * 6 + 2, none⟩) hgw).trans f2
          have v3 := (HBQ.out.frozen (p := ⟨g, k * 6 + 3, none⟩) hgw).trans f3
          have v4 := (HBQ.out.frozen (p := ⟨g, k * 6 + 4, none⟩) hgw).trans f4
          have v5 := (HBQ.out.frozen (p := ⟨g, k * 6 + 5, none⟩) hgw).trans f5
          go_wp2_with fail
          go_quiet (fail)
          go_wp2_with fail
          go_ret
          exact HN.out _ _ (pw_below_drewN HBQ.out _)
  · rw [if_pos (by simpa using hck)]
    have q : ((ckT t) != 0) = true := by simpa using hck
    generalize ckT t = e at *
    generalize place (namesT x.f3) t.f0 = p at *
    clear hR hok hH hfr h hx HP hck
    go_enter Tryz.func53, Tryz.ntmps53
    go_wp2_with (go_at_call 39; refine (HCK.out _).mono ?_; rintro e1 w1 ⟨rfl, hcl⟩; have HB1 := Lib.hid hcl; have a0 := nm_cell_at hcl o0; have a3 := nm_cell_at hcl x3; clear hcl)
    go_region_held3 (fun W' => W'.cell? ⟨b, i * 4 + 3, none⟩ = some (.slice A x.f3.length c) ∧ W'.cell? ⟨bo, 0, none⟩ = some (.string t.f0) ∧ Below W.heap.size W W')
      (first
        | exact ⟨a3, a0, HB1.out.drew⟩
        | exact ⟨nm_cell_at HBQ.out x3, nm_cell_at HBQ.out o0, HBQ.out⟩
        | go_keep)
      ((go_at_call 40; obtain ⟨_, _, hq⟩ := ‹_ ∧ _ ∧ Below W.heap.size W _›; refine (HAT.out _ hq).mono ?_; rintro e1 w2 ⟨rfl, hcl⟩; have HBQ := Lib.hid (hq.trans (hcl.mono hq.size)); clear hcl hq))
    all_goals
      go_wp2_with fail
      go_ret
      exact HN.out _ _ HBQ.out
end Go.Proofs.YtlglbpjccpdloaaGreat.Ext
set_option linter.unusedVariables false
set_option linter.unusedSimpArgs false
namespace Go.Proofs.YtlglbpjccpdloaaGreat.Ext
open Go.RowKit Go.Shelf Go.Proofs.YtlglbpjccpdloaaGreat.PNamA Go.Proofs.YtlglbpjccpdloaaGreat.Tox Go.Proofs.YtlglbpjccpdloaaGreat.ToxZ Go.Proofs.YtlglbpjccpdloaaGreatW.PrintWords Go.Proofs.YtlglbpjccpdloaaGreatW.PrintLast
def names_AddToxic.f (l : List S39) (s : ByteArray) (t0 : ByteArray) (t1 : Int) (t2 : Bool) (t3 t4 t5 : Int) : Option (List S39 × Int) := if l.length ≤ 4611686018427387904 then some (changeOf (addT ⟨t0, t1, t2, t3, t4, t5⟩) l s) else none
set_option maxRecDepth 100000 in
theorem names_AddToxic.calls (A0 : Option Addr) (c0 : Nat) (l0 : List S39) (s : ByteArray) (t0 : ByteArray) (t1 : Int) (t2 : Bool) (t3 t4 t5 : Int) (r1 : List S39) (r2 : Int) (w : World) (hr0 : Kd.C k39 w A0 l0.length l0) (hc0 : l0.length ≤ c0) (h : names_AddToxic.f l0 s t0 t1 t2 t3 t4 t5 = some (r1, r2)) :
    Calls Tryz.prog 16 #[.slice A0 l0.length c0, .string s, .agg #[.string t0, .int .i64 t1, .bool t2, .int .i64 t3, .int .i64 t4, .int .i64 t5]] w fun e w' => ∃ v0_ : Value, e = .returned (.tuple #[v0_, .int .i64 r2]) ∧ Kd.S k39 39 w' w.heap.size (fun _ => True) v0_ r1 ∧ Below w.heap.size w w' := by
  unfold names_AddToxic.f at h
  split at h
  · rename_i hm
    have hres := Option.some.inj h
    have hb : Below w.heap.size w (w.alloc (.cells #[.string t0, .int .i64 t1, .bool t2, .int .i64 t3, .int .i64 t4, .int .i64 t5] 24)) := (Below.refl _ w).alloc (Nat.le_refl _) _
    have HC := Lib.hid (change_any 38 #[.pointer (some ⟨w.heap.size, 0, none⟩)] (addT ⟨t0, t1, t2, t3, t4, t5⟩) A0 c0 l0 s (w.alloc (.cells #[.string t0, .int .i64 t1, .bool t2, .int .i64 t3, .int .i64 t4, .int .i64 t5] 24)) (Kd.C_below hr0 hb) hc0 hm (enters_of Tryz.func38 (by kernel_rfl) rfl) (by
      intro W b n cap i xs x hbW hS hx h8
      have o0 := nm_cell_at hbW (nm_box w #[.string t0, .int .i64 t1, .bool t2, .int .i64 t3, .int .i64 t4, .int .i64 t5] 24 0)
      have o1 := nm_cell_at hbW (nm_box w #[.string t0, .int .i64 t1, .bool t2, .int .i64 t3, .int .i64 t4, .int .i64 t5] 24 1)
      have o2 := nm_cell_at hbW (nm_box w #[.string t0, .int .i64 t1, .bool t2, .int .i64 t3, .int .i64 t4, .int .i64 t5] 24 2)
      have o3 := nm_cell_at hbW (nm_box w #[.string t0, .int .i64 t1, .bool t2, .int .i64 t3, .int .i64 t4, .int .i64 t5] 24 3)
      have o4 := nm_cell_at hbW (nm_box w #[.string t0, .int .i64 t1, .bool t2, .int .i64 t3, .int .i64 t4, .int .i64 t5] 24 4)
      have o5 := nm_cell_at hbW (nm_box w #[.string t0, .int .i64 t1, .bool t2, .int .i64 t3, .int .i64 t4, .int .i64 t5] 24 5)
      exact addtoxic_clo ⟨t0, t1, t2, t3, t4, t5⟩ hbW.size hS hx h8 o0 o1 o2 o3 o4 o5))
    have HB := Lib.hid hb
    rw [hres] at HC
    generalize l0.length = n at *
    clear hb hres h hr0 hc0
    go_enter Tryz.func16, Tryz.ntmps16
    go_wp2_with (go_at_call 37; refine HC.out.mono ?_; rintro e w2 ⟨v, rfl, hS, hb2⟩; obtain ⟨A, c, rfl⟩ := Kd.S_slice hS; have HS := Lib.hid hS; have HB2 := Lib.hid hb2; clear hS hb2)
    go_ret2
    exact ⟨_, rfl, Kd.S_lower HS.out (by simp), HB.out.trans (HB2.out.mono HB.out.size)⟩
  · cases h
def names_SetToxic.f (l : List S39) (s : ByteArray) (t0 : ByteArray) (t1 : Int) (t2 : Bool) (t3 t4 t5 : Int) : Option (List S39 × Int) := if l.length ≤ 4611686018427387904 then some (changeOf (setT ⟨t0, t1, t2, t3, t4, t5⟩) l s) else none
set_option maxRecDepth 100000 in
theorem names_SetToxic.calls (A0 : Option Addr) (c0 : Nat) (l0 : List S39) (s : ByteArray) (t0 : ByteArray) (t1 : Int) (t2 : Bool) (t3 t4 t5 : Int) (r1 : List S39) (r2 : Int) (w : World) (hr0 : Kd.C k39 w A0 l0.length l0) (hc0 : l0.length ≤ c0) (h : names_SetToxic.f l0 s t0 t1 t2 t3 t4 t5 = some (r1, r2)) :
    Calls Tryz.prog 23 #[.slice A0 l0.length c0, .string s, .agg #[.string t0, .int .i64 t1, .bool t2, .int .i64 t3, .int .i64 t4, .int .i64 t5]] w fun e w' => ∃ v0_ : Value, e = .returned (.tuple #[v0_, .int .i64 r2]) ∧ Kd.S k39 39 w' w.heap.size (fun _ => True) v0_ r1 ∧ Below w.heap.size w w' := by
  unfold names_SetToxic.f at h
  split at h
  · rename_i hm
    have hres := Option.some.inj h
    have hb : Below w.heap.size w (w.alloc (.cells #[.string t0, .int .i64 t1, .bool t2, .int .i64 t3, .int .i64 t4, .int .i64 t5] 24)) := (Below.refl _ w).alloc (Nat.le_refl _) _
    have HC := Lib.hid (change_any 53 #[.pointer (some ⟨w.heap.size, 0, none⟩)] (setT ⟨t0, t1, t2, t3, t4, t5⟩) A0 c0 l0 s (w.alloc (.cells #[.string t0, .int .i64 t1, .bool t2, .int .i64 t3, .int .i64 t4, .int .i64 t5] 24)) (Kd.C_below hr0 hb) hc0 hm (enters_of Tryz.func53 (by kernel_rfl) rfl) (by
      intro W b n cap i xs x hbW hS hx h8
      have o0 := nm_cell_at hbW (nm_box w #[.string t0, .int .i64 t1, .bool t2, .int .i64 t3, .int .i64 t4, .int .i64 t5] 24 0)
      have o1 := nm_cell_at hbW (nm_box w #[.string t0, .int .i64 t1, .bool t2, .int .i64 t3, .int .i64 t4, .int .i64 t5] 24 1)
      have o2 := nm_cell_at hbW (nm_box w #[.string t0, .int .i64 t1, .bool t2, .int .i64 t3, .int .i64 t4, .int .i64 t5] 24 2)
      have o3 := nm_cell_at hbW (nm_box w #[.string t0, .int .i64 t1, .bool t2, .int .i64 t3, .int .i64 t4, .int .i64 t5] 24 3)
      have o4 := nm_cell_at hbW (nm_box w #[.string t0, .int .i64 t1, .bool t2, .int .i64 t3, .int .i64 t4, .int .i64 t5] 24 4)
      have o5 := nm_cell_at hbW (nm_box w #[.string t0, .int .i64 t1, .bool t2, .int .i64 t3, .int .i64 t4, .int .i64 t5] 24 5)
      exact settoxic_clo ⟨t0, t1, t2, t3, t4, t5⟩ hbW.size hS hx h8 o0 o1 o2 o3 o4 o5 (by simp)))
    have HB := Lib.hid hb
    rw [hres] at HC
    generalize l0.length = n at *
    clear hb hres h hr0 hc0
    go_enter Tryz.func23, Tryz.ntmps23
    go_wp2_with (go_at_call 37; refine HC.out.mono ?_; rintro e w2 ⟨v, rfl, hS, hb2⟩; obtain ⟨A, c, rfl⟩ := Kd.S_slice hS; have HS := Lib.hid hS; have HB2 := Lib.hid hb2; clear hS hb2)
    go_ret2
    exact ⟨_, rfl, Kd.S_lower HS.out (by simp), HB.out.trans (HB2.out.mono HB.out.size)⟩
  · cases h
def names_DropToxic.f (l : List S39) (s : ByteArray) (t : ByteArray) : Option (List S39 × Int) := if l.length ≤ 4611686018427387904 then some (changeOf (dropT t) l s) else none
set_option maxRecDepth 100000 in
theorem names_DropToxic.calls (A0 : Option Addr) (c0 : Nat) (l0 : List S39) (s : ByteArray) (t : ByteArray) (r1 : List S39) (r2 : Int) (w : World) (hr0 : Kd.C k39 w A0 l0.length l0) (hc0 : l0.length ≤ c0) (h : names_DropToxic.f l0 s t = some (r1, r2)) :
    Calls Tryz.prog 22 #[.slice A0 l0.length c0, .string s, .string t] w fun e w' => ∃ v0_ : Value, e = .returned (.tuple #[v0_, .int .i64 r2]) ∧ Kd.S k39 39 w' w.heap.size (fun _ => True) v0_ r1 ∧ Below w.heap.size w w' := by
  unfold names_DropToxic.f at h
  split at h
  · rename_i hm
    have hres := Option.some.inj h
    have hb : Below w.heap.size w (w.alloc (.cells #[.string t] 9)) := (Below.refl _ w).alloc (Nat.le_refl _) _
    have HC := Lib.hid (change_any 51 #[.pointer (some ⟨w.heap.size, 0, none⟩)] (dropT t) A0 c0 l0 s (w.alloc (.cells #[.string t] 9)) (Kd.C_below hr0 hb) hc0 hm (enters_of Tryz.func51 (by kernel_rfl) rfl) (by
      intro W b n cap i xs x hbW hS hx h8
      exact droptoxic_clo t hbW.size hS hx (nm_cell_at hbW (nm_box w #[.string t] 9 0)) h8))
    have HB := Lib.hid hb
    rw [hres] at HC
    generalize l0.length = n at *
    clear hb hres h hr0 hc0
    go_enter Tryz.func22, Tryz.ntmps22
    go_wp2_with (go_at_call 37; refine HC.out.mono ?_; rintro e w2 ⟨v, rfl, hS, hb2⟩; obtain ⟨A, c, rfl⟩ := Kd.S_slice hS; have HS := Lib.hid hS; have HB2 := Lib.hid hb2; clear hS hb2)
    go_ret2
    exact ⟨_, rfl, Kd.S_lower HS.out (by simp), HB.out.trans (HB2.out.mono HB.out.size)⟩
  · cases h
def names_Switch.f (l : List S39) (s : ByteArray) (on : Bool) : Option (List S39 × Int) := if l.length ≤ 4611686018427387904 then some (changeOf (onT on) l s) else none
set_option maxRecDepth 100000 in
theorem names_Switch.calls (A0 : Option Addr) (c0 : Nat) (l0 : List S39) (s : ByteArray) (on : Bool) (r1 : List S39) (r2 : Int) (w : World) (hr0 : Kd.C k39 w A0 l0.length l0) (hc0 : l0.length ≤ c0) (h : names_Switch.f l0 s on = some (r1, r2)) :
    Calls Tryz.prog 21 #[.slice A0 l0.length c0, .string s, .bool on] w fun e w' => ∃ v0_ : Value, e = .returned (.tuple #[v0_, .int .i64 r2]) ∧ Kd.S k39 39 w' w.heap.size (fun _ => True) v0_ r1 ∧ Below w.heap.size w w' := by
  unfold names_Switch.f at h
  split at h
  · rename_i hm
    have hres := Option.some.inj h
    have hb : Below w.heap.size w (w.alloc (.cells #[.bool on] 4)) := (Below.refl _ w).alloc (Nat.le_refl _) _
    have HC := Lib.hid (change_any 50 #[.pointer (some ⟨w.heap.size, 0, none⟩)] (onT on) A0 c0 l0 s (w.alloc (.cells #[.bool on] 4)) (Kd.C_below hr0 hb) hc0 hm (enters_of Tryz.func50 (by kernel_rfl) rfl) (by
      intro W b n cap i xs x hbW hS hx h8
      exact switch_clo on hS hx (nm_cell_at hbW (nm_box w #[.bool on] 4 0))))
    have HB := Lib.hid hb
    rw [hres] at HC
    generalize l0.length = n at *
    clear hb hres h hr0 hc0
    go_enter Tryz.func21, Tryz.ntmps21
    go_wp2_with (go_at_call 37; refine HC.out.mono ?_; rintro e w2 ⟨v, rfl, hS, hb2⟩; obtain ⟨A, c, rfl⟩ := Kd.S_slice hS; have HS := Lib.hid hS; have HB2 := Lib.hid hb2; clear hS hb2)
    go_ret2
    exact ⟨_, rfl, Kd.S_lower HS.out (by simp), HB.out.trans (HB2.out.mono HB.out.size)⟩
  · cases h
end Go.Proofs.YtlglbpjccpdloaaGreat.Ext
set_option linter.unusedVariables false
set_option linter.unusedSimpArgs false
namespace Go.Proofs.YtlglbpjccpdloaaGreat.Ext
open Go.RowKit Go.Shelf Go.Proofs.YtlglbpjccpdloaaGreat.PNamA Go.Proofs.YtlglbpjccpdloaaGreat.Tox Go.Proofs.YtlglbpjccpdloaaGreat.ToxZ Go.Proofs.YtlglbpjccpdloaaGreatW.PrintWords Go.Proofs.YtlglbpjccpdloaaGreatW.PrintLast
def dropOf (l : List S39) (s : ByteArray) : List S39 × Int :=
  if rightB l then (if place (namesP l) s < 0 then (l, 142) else (l.eraseIdx (place (namesP l) s).toNat, 0)) else ([], 1)
def names_Drop.f (l : List S39) (s : ByteArray) : Option (List S39 × Int) := if l.length ≤ 4611686018427387904 then some (dropOf l s) else none
theorem change_id (l : List S39) (s : ByteArray) : changeOf idT l s = if rightB l then (if place (namesP l) s < 0 then (l, 142) else (l, 0)) else ([], 1) := by
  unfold changeOf
  split
  · split
    · rfl
    · rename_i h1 h2
      have hpl := place_lt (l := namesP l) (s := s)
      obtain ⟨k, hk⟩ : ∃ k : Nat, place (namesP l) s = (k : Int) := ⟨(place (namesP l) s).toNat, by omega⟩
      rw [hk] at hpl ⊢
      have hkl : k < l.length := by have := hpl.1; simp [namesP] at this; exact this
      have hx : l[k]? = some l[k] := List.getElem?_eq_getElem hkl
      rw [Int.toNat_natCast, List.getD_eq_getElem?_getD, hx]
      simp only [idT, Option.getD_some]
      rw [set_self hx]
  · rfl
set_option maxRecDepth 100000 in
set_option maxHeartbeats 1000000 in
theorem names_Drop.calls (A0 : Option Addr) (c0 : Nat) (l0 : List S39) (s : ByteArray) (r1 : List S39) (r2 : Int) (w : World) (hr0 : Kd.C k39 w A0 l0.length l0) (hc0 : l0.length ≤ c0) (h : names_Drop.f l0 s = some (r1, r2)) :
    Calls Tryz.prog 19 #[.slice A0 l0.length c0, .string s] w fun e w' => ∃ v0_ : Value, e = .returned (.tuple #[v0_, .int .i64 r2]) ∧ Kd.S k39 39 w' w.heap.size (fun _ => True) v0_ r1 ∧ Below w.heap.size w w' := by
  unfold names_Drop.f at h
  split at h
  · rename_i hm
    have hres := Option.some.inj h
    have hb : Below w.heap.size w (w.alloc (.cells #[.string s] 9)) := (Below.refl _ w).alloc (Nat.le_refl _) _
    have hcell := nm_box w #[.string s] 9 0
    have HC := Lib.hid (change_any 44 #[] idT A0 c0 l0 s (w.alloc (.cells #[.string s] 9)) (Kd.C_below hr0 hb) hc0 hm (enters_of Tryz.func44 (by kernel_rfl) rfl) (by
      intro W b n cap i xs x hbW hS hx h8
      exact id_clo hS hx))
    have HB := Lib.hid hb
    rw [change_id] at HC
    unfold dropOf at hres
    by_cases hright : rightB l0 = true
    · rw [if_pos hright] at HC hres
      by_cases hneg : place (namesP l0) s < 0
      · rw [if_pos hneg] at HC hres
        obtain ⟨rfl, rfl⟩ := Prod.mk.inj hres
        generalize hn : l0.length = n at *
        clear hb hres h hr0 hc0 hn hright hneg
        go_enter Tryz.func19, Tryz.ntmps19
        go_wp2_with (go_at_call 37; refine HC.out.mono ?_; rintro e w2 ⟨v, rfl, hS, hb2⟩; obtain ⟨A, c, rfl⟩ := Kd.S_slice hS; have HS := Lib.hid hS; have HB2 := Lib.hid hb2; clear hS hb2)
        go_ret2
        exact ⟨_, rfl, Kd.S_lower HS.out (by simp), HB.out.trans (HB2.out.mono HB.out.size)⟩
      · rw [if_neg hneg] at HC hres
        obtain ⟨k, hk⟩ : ∃ k : Nat, place (namesP l0) s = (k : Int) := ⟨(place (namesP l0) s).toNat, by omega⟩
        rw [hk, Int.toNat_natCast] at hres
        obtain ⟨rfl, rfl⟩ := Prod.mk.inj hres
        have hpl := place_lt (l := namesP l0) (s := s)
        rw [hk] at hpl
        have hkl : k < l0.length := by have := hpl.1; simp [namesP] at this; exact this
        obtain ⟨m, hm1⟩ : ∃ m, l0.length = m + 1 := ⟨l0.length - 1, by omega⟩
        have hm2 : m ≤ 1000000 := by have := (right_len hright).1; omega
        have HDEL := Lib.hid (fun W B b cap hB hS hc hbn => @delf_calls W B b m cap k w.heap.size l0 s hB hS hk (fun j x hj hx => only_one hright hk j x hj hx) hc hbn hm2)
        have HM := Lib.hid hm1
        have HCELL := Lib.hid hcell
        rw [hm1] at HC hr0 hc0 ⊢
        clear hb h hr0 hc0 hright hneg hk hpl hkl hm1 hcell hres
        go_enter Tryz.func19, Tryz.ntmps19
        go_wp2_with (first
          | (go_at_call 37; refine HC.out.mono ?_; rintro e w2 ⟨v, rfl, hS, hb2⟩; obtain ⟨b, c, hv, hbb, _⟩ := Kd.S_form hS (by have := HM.out; simp only; omega); simp only at hv; rw [HM.out] at hv; subst hv; have HS := Lib.hid hS; have HB2 := Lib.hid hb2; clear hS hb2)
          | (go_at_call 45; refine (HDEL.out _ (w.heap.size + 1) b c (by have := HB2.out.size; simp at this; exact this) (by have := HS.out; simp only [HM.out, World.size_alloc] at this; simpa using this) (nm_cell_at HB2.out HCELL.out) (by omega)).mono ?_; rintro e w3 ⟨rfl, hS3, hb3⟩; have HS3 := Lib.hid hS3; have HB3 := Lib.hid hb3; clear hS3 hb3)
          | fail)
        go_ret2
        exact ⟨_, rfl, Kd.S_lower HS3.out (by omega), (HB.out.trans (HB2.out.mono HB.out.size)).trans (HB3.out.mono (by omega))⟩
    · rw [if_neg hright] at HC hres
      obtain ⟨rfl, rfl⟩ := Prod.mk.inj hres
      generalize l0.length = n at *
      clear hb hres h hr0 hc0 hright
      go_enter Tryz.func19, Tryz.ntmps19
      go_wp2_with (go_at_call 37; refine HC.out.mono ?_; rintro e w2 ⟨v, rfl, hS, hb2⟩; obtain ⟨A, c, rfl⟩ := Kd.S_slice hS; have HS := Lib.hid hS; have HB2 := Lib.hid hb2; clear hS hb2)
      go_ret2
      exact ⟨_, rfl, Kd.S_lower HS.out (by simp), HB.out.trans (HB2.out.mono HB.out.size)⟩
  · cases h
end Go.Proofs.YtlglbpjccpdloaaGreat.Ext
