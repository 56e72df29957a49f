/- Gathered by a program of this session (shake.py): what the claim's theorem needs. -/
import Derived.Test.YtlglbpjccpdloaaGreatNn1
import Derived.Test.YtlglbpjccpdloaaGreatNn2
import Derived.Test.YtlglbpjccpdloaaGreatNn3
import Derived.Test.YtlglbpjccpdloaaGreatNn5
import Derived.IntWalk
set_option linter.unusedVariables false
set_option linter.unusedSimpArgs false
namespace Go.Proofs.YtlglbpjccpdloaaGreat.Ext
end Go.Proofs.YtlglbpjccpdloaaGreat.Ext
namespace Go.Proofs.YtlglbpjccpdloaaGreat.PNamA
end Go.Proofs.YtlglbpjccpdloaaGreat.PNamA
namespace Go.Proofs.YtlglbpjccpdloaaGreat.ToxZ
end Go.Proofs.YtlglbpjccpdloaaGreat.ToxZ
namespace Go.Proofs.YtlglbpjccpdloaaGreatW.PrintLast
end Go.Proofs.YtlglbpjccpdloaaGreatW.PrintLast
namespace Go.Proofs.YtlglbpjccpdloaaGreatW.PrintMore
end Go.Proofs.YtlglbpjccpdloaaGreatW.PrintMore
namespace Go.Proofs.YtlglbpjccpdloaaGreatW.PrintWords
end Go.Proofs.YtlglbpjccpdloaaGreatW.PrintWords
namespace Go.Proofs.YtlglbpjccpdloaaGreat.PNamA
open Go.Proofs.YtlglbpjccpdloaaGreat.Ext Go.Proofs.YtlglbpjccpdloaaGreat.ToxZ Go.RowKit Go.Proofs.YtlglbpjccpdloaaGreatW.PrintWords Go.Proofs.YtlglbpjccpdloaaGreatW.PrintLast Go.Proofs.YtlglbpjccpdloaaGreatW.PrintMore
attribute [local go_sem] max2_int min2_int max_two min_two max_three min_three max_four min_four   -- for this text's walks alone
set_option linter.unusedVariables false
set_option linter.unusedSimpArgs false
def chicaneref14_Right.l0 : Nat → List (S39) → Int → Option (Bool)
 | 0, _, _ => none
 | k + 1, x0, x3 => if x3 < (x0.length : Int) then (if 0 ≤ x3 then ((chicaneref14_Check.f k ((zqe x0 x3).f0) ((zqe x0 x3).f1) ((zqe x0 x3).f2) ((zqe x0 x3).f3)).bind fun t213 => (if t213 = 0 then (if x3 > 0 then (if 0 ≤ (wrap64 (x3 - 1)) then (if (wrap64 (x3 - 1)) < (x0.length : Int) then (if ((Op.bytesLess (((zqe x0 (wrap64 (x3 - 1))).f0).toList) (((zqe x0 x3).f0).toList)) = true) then (chicaneref14_Right.l0 k x0 (wrap64 (x3 + 1))) else (some false)) else (none)) else (none)) else (chicaneref14_Right.l0 k x0 (wrap64 (x3 + 1)))) else (some false))) else (none)) else (some (decide ((x0.length : Int) ≤ 8)))
def chicaneref14_Right.f (k : Nat) (l0 : List (S39)) : Option (Bool) := chicaneref14_Right.l0 k l0 0
theorem chicaneref14_Right.mono_l : ∀ k, (∀ y0 y1, LeO (chicaneref14_Right.l0 k y0 y1) (chicaneref14_Right.l0 (k + 1) y0 y1))
 | 0 => fun _ _ r h => by simp [chicaneref14_Right.l0] at h
 | k + 1 => by
  have ih0 := chicaneref14_Right.mono_l k
  ·intro y0 y1
   unfold chicaneref14_Right.l0
   repeat' first
   | (with_reducible exact ih0 _ _)
   | (with_reducible exact chicaneref14_Check.mono _ _ _ _ _)
   | (with_reducible exact LeO.refl _)
   | (with_reducible exact LeO.none _)
   | (with_reducible refine LeO.ite ?_ ?_)
   | (with_reducible refine LeO.bind ?_ (fun _ => ?_))
   | exact ih0 _ _
   | exact chicaneref14_Check.mono _ _ _ _ _
   | exact LeO.none _
   | refine LeO.ite ?_ ?_
   | refine LeO.bind ?_ (fun _ => ?_)
theorem chicaneref14_Right.mono : ∀ a0 k, LeO (chicaneref14_Right.f k a0) (chicaneref14_Right.f (k + 1) a0) := by
 intro a0 k
 have ih0 := chicaneref14_Right.mono_l k
 unfold chicaneref14_Right.f
 repeat' first
   | (with_reducible exact ih0 _ _)
   | (with_reducible exact chicaneref14_Check.mono _ _ _ _ _)
   | (with_reducible exact LeO.refl _)
   | (with_reducible exact LeO.none _)
   | (with_reducible refine LeO.ite ?_ ?_)
   | (with_reducible refine LeO.bind ?_ (fun _ => ?_))
   | exact ih0 _ _
   | exact chicaneref14_Check.mono _ _ _ _ _
   | exact LeO.none _
   | refine LeO.ite ?_ ?_
   | refine LeO.bind ?_ (fun _ => ?_)
def chicaneref14_Right.T4 : Bool × List (List Nat × List Nat) := (true, [([], []), ([], []), ([0, 1], [0, 1]), ([2], [2]), ([3], [3]), ([4], [4]), ([5, 4], [5]), ([6], [6]), ([7, 6], [6, 7]), ([8, 6, 6], [6, 8]), ([9], [9]), ([9], [9]), ([11, 9], [9, 11]), ([10, 12, 9], [9, 10, 12]), ([13, 9], [9, 13]), ([14, 9], [9, 14]), ([9], [9]), ([9], [9]), ([16, 17, 9], [9, 16, 17]), ([18, 9], [9, 18]), ([19, 9], [9, 19]), ([15, 20, 9], [9, 15, 20]), ([21, 9], [9, 21]), ([9, 22, 6], [6, 9, 22]), ([6, 23], [6, 23])])
def chicaneref14_Right.B4 : List Nat := [0, 0, 3, 7, 15, 31, 63, 127, 255, 511, 1023, 1023, 3071, 8191, 16383, 32767, 1023, 1023, 197631, 459775, 984063, 2097151, 4194303, 8388607, 16777215]
theorem chicaneref14_Right.tab4 : rtab .any (opsOf Tryz.f12 4) = chicaneref14_Right.T4 := by kernel_rfl
theorem chicaneref14_Right.bits4 : waitsOk chicaneref14_Right.T4.2 chicaneref14_Right.B4 = true := by kernel_rfl
set_option maxHeartbeats 8000000 in
set_option maxRecDepth 100000 in
theorem chicaneref14_Right.calls (k : Nat) (A0 : Option Addr) (c0 : Nat) (l0 : List (S39)) (r : Bool) (w : World) (hr0 : Kd.C k39 w A0 l0.length l0) (hc0 : l0.length ≤ c0) (h : chicaneref14_Right.f k l0 = some r) :
  Calls Tryz.prog 12 #[.slice A0 l0.length c0] w fun e w' => e = .returned (.bool r) ∧ Below w.heap.size w w' := by
 have hu39 := Tryz.underlying39
 have HR0 := zqd.mk hr0
 have HC0 := zqd.mk hc0
 clear hr0 hc0
 have HB := zqd.mk (Below.refl w.heap.size w)
 have H : (chicaneref14_Right.l0 k l0 0) = some r := h
 clear h
 have H' := zqd.mk H
 clear H
 go_enter Tryz.func12, Tryz.ntmps12
 go_wp2
 go_loopg [3] k (fun kq v3 w' => ∃ (x3_1 : Int), v3 = .int .i64 x3_1 ∧ zqd (chicaneref14_Right.l0 kq l0 x3_1 = some r) ∧ zqd (kq ≤ k) ∧ zqd (Below w.heap.size w w'))
 case atStart => exact ⟨(0), (by first | rfl | (simp; done) | (simp [*]; done)), H', ⟨Nat.le_refl _⟩, ⟨by repeat (first | (with_reducible first | exact HB.out | apply zqj | apply zqb | apply zqf) | exact HB.out)⟩⟩
 case round =>
  clear H'
  try clear c1
  obtain ⟨x3_1, rfl, HA, HK1, HB⟩ := hrel
  cases gk with
  | zero => exact absurd HA.out (by simp [chicaneref14_Right.l0])
  | succ k1 =>
   have H := HA.out
   clear HA
   simp only [chicaneref14_Right.l0] at H
   by_cases c2 : x3_1 < (l0.length : Int)
   ·rw [if_pos c2] at H
    have c2b0 : decide (x3_1 < (l0.length : Int)) = true := decide_eq_true c2
    clear c2
    by_cases c3 : 0 ≤ x3_1
    ·rw [if_pos c3] at H
     have c3b0 : decide (0 ≤ x3_1) = true := decide_eq_true c3
     clear c3
     replace H := Option.bind_eq_some_iff.mp H
     obtain ⟨t213, A40, H⟩ := H
     replace H : (if t213 = 0 then (if x3_1 > 0 then (if 0 ≤ (wrap64 (x3_1 - 1)) then (if (wrap64 (x3_1 - 1)) < (l0.length : Int) then (if ((Op.bytesLess (((zqe l0 (wrap64 (x3_1 - 1))).f0).toList) (((zqe l0 x3_1).f0).toList)) = true) then (chicaneref14_Right.l0 k1 l0 (wrap64 (x3_1 + 1))) else (some false)) else (none)) else (none)) else (chicaneref14_Right.l0 k1 l0 (wrap64 (x3_1 + 1)))) else (some false)) = some r := H
     have A4 := zqd.mk A40
     clear A40
     by_cases c5 : t213 = 0
     ·rw [if_pos c5] at H
      have c5b0 : (t213 == 0) = true := beq_iff_eq.mpr c5
      have c5b1 : (t213 != 0) = false := bne_eq_false_iff_eq.mpr c5
      clear c5
      by_cases c6 : x3_1 > 0
      ·rw [if_pos c6] at H
       have c6b0 : decide (0 < x3_1) = true := decide_eq_true c6
       clear c6
       obtain ⟨ji7, hji7⟩ : ∃ j_ : Int, (wrap64 (x3_1 - 1)) = j_ := ⟨_, rfl⟩
       replace H : (if 0 ≤ (ji7) then (if (ji7) < (l0.length : Int) then (if ((Op.bytesLess (((zqe l0 (ji7)).f0).toList) (((zqe l0 x3_1).f0).toList)) = true) then (chicaneref14_Right.l0 k1 l0 (wrap64 (x3_1 + 1))) else (some false)) else (none)) else (none)) = some r := by first | (rw [hji7] at H; exact H) | (simp only [hji7] at H ⊢; exact H)
       (try rw [hji7] at A4)
       have hji7w : (IntKind.i64.wrap (x3_1 - 1)) = ji7 := (i64_w _).trans hji7
       by_cases c8 : 0 ≤ (ji7)
       ·rw [if_pos c8] at H
        have c8b0 : decide (0 ≤ (ji7)) = true := decide_eq_true c8
        clear c8
        by_cases c9 : (ji7) < (l0.length : Int)
        ·rw [if_pos c9] at H
         have c9b0 : decide ((ji7) < (l0.length : Int)) = true := decide_eq_true c9
         clear c9
         by_cases c10 : ((Op.bytesLess (((zqe l0 (ji7)).f0).toList) (((zqe l0 x3_1).f0).toList)) = true)
         ·rw [if_pos c10] at H
          have c10b0 : (Op.bytesLess (((zqe l0 (ji7)).f0).toList) (((zqe l0 x3_1).f0).toList)) = true := c10
          clear c10
          have H' := zqd.mk H
          clear H
          try go_wp2
          have n0_ := zqd.mk (zqf HB.out)
          clear HB
          have HB := n0_
          clear n0_
          have p212 : 0 ≤ (x3_1 : Int) := of_decide_eq_true (by first | (with_reducible assumption) | assumption)
          have q212 : x3_1 < (l0.length : Int) := of_decide_eq_true (by first | (with_reducible assumption) | assumption)
          obtain ⟨ad212, A212_3, c212_3, e212, hx212_0, hx212_1, hx212_2, hx212_3, hl212_3, hi212_3⟩ := at_T39 HR0.out x3_1 p212 q212
          have hw212_3 := hx212_3
          have hw212_2 := hx212_2
          have hw212_1 := hx212_1
          have hw212_0 := hx212_0
          cases e212
          replace hx212_0 := (HB.out.cell (World.block_lt_of_cell? w _ hx212_0)).trans hx212_0
          replace hx212_1 := (HB.out.cell (World.block_lt_of_cell? w _ hx212_1)).trans hx212_1
          replace hx212_2 := (HB.out.cell (World.block_lt_of_cell? w _ hx212_2)).trans hx212_2
          replace hx212_3 := (HB.out.cell (World.block_lt_of_cell? w _ hx212_3)).trans hx212_3
          have HR212_3 := zqd.mk hi212_3
          have HC212_3 := zqd.mk hl212_3
          clear hi212_3 hl212_3
          replace p212 := eq_true p212
          replace q212 := eq_true q212
          have p214 : 0 ≤ ((ji7) : Int) := of_decide_eq_true (by first | (with_reducible assumption) | assumption)
          have q214 : (ji7) < (l0.length : Int) := of_decide_eq_true (by first | (with_reducible assumption) | assumption)
          obtain ⟨ad214, A214_3, c214_3, e214, hx214_0, hx214_1, hx214_2, hx214_3, hl214_3, hi214_3⟩ := at_T39 HR0.out (ji7) p214 q214
          have hw214_3 := hx214_3
          have hw214_2 := hx214_2
          have hw214_1 := hx214_1
          have hw214_0 := hx214_0
          obtain rfl : ad212 = ad214 := (by injection e214)
          replace hx214_0 := (HB.out.cell (World.block_lt_of_cell? w _ hx214_0)).trans hx214_0
          replace hx214_1 := (HB.out.cell (World.block_lt_of_cell? w _ hx214_1)).trans hx214_1
          replace hx214_2 := (HB.out.cell (World.block_lt_of_cell? w _ hx214_2)).trans hx214_2
          replace hx214_3 := (HB.out.cell (World.block_lt_of_cell? w _ hx214_3)).trans hx214_3
          have HR214_3 := zqd.mk hi214_3
          have HC214_3 := zqd.mk hl214_3
          clear hi214_3 hl214_3
          replace p214 := eq_true p214
          replace q214 := eq_true q214
          have p215 : 0 ≤ (x3_1 : Int) := of_decide_eq_true (by first | (with_reducible assumption) | assumption)
          have q215 : x3_1 < (l0.length : Int) := of_decide_eq_true (by first | (with_reducible assumption) | assumption)
          obtain ⟨ad215, A215_3, c215_3, e215, hx215_0, hx215_1, hx215_2, hx215_3, hl215_3, hi215_3⟩ := at_T39 HR0.out x3_1 p215 q215
          have hw215_3 := hx215_3
          have hw215_2 := hx215_2
          have hw215_1 := hx215_1
          have hw215_0 := hx215_0
          obtain rfl : ad212 = ad215 := (by injection e215)
          replace hx215_0 := (HB.out.cell (World.block_lt_of_cell? w _ hx215_0)).trans hx215_0
          replace hx215_1 := (HB.out.cell (World.block_lt_of_cell? w _ hx215_1)).trans hx215_1
          replace hx215_2 := (HB.out.cell (World.block_lt_of_cell? w _ hx215_2)).trans hx215_2
          replace hx215_3 := (HB.out.cell (World.block_lt_of_cell? w _ hx215_3)).trans hx215_3
          have HR215_3 := zqd.mk hi215_3
          have HC215_3 := zqd.mk hl215_3
          clear hi215_3 hl215_3
          replace p215 := eq_true p215
          replace q215 := eq_true q215
          refine start_ (n := 25) (S := fun w' => w'.cell? (ad212.add ((x3_1).toNat * 4)) = some (.string ((zqe l0 x3_1).f0)) ∧ w'.cell? ⟨(ad212.add ((x3_1).toNat * 4)).block, (ad212.add ((x3_1).toNat * 4)).off + 1, none⟩ = some (.bool ((zqe l0 x3_1).f1)) ∧ w'.cell? ⟨(ad212.add ((x3_1).toNat * 4)).block, (ad212.add ((x3_1).toNat * 4)).off + 2, none⟩ = some (.int .i64 ((zqe l0 x3_1).f2)) ∧ w'.cell? ⟨(ad212.add ((x3_1).toNat * 4)).block, (ad212.add ((x3_1).toNat * 4)).off + 3, none⟩ = some (.slice A212_3 ((zqe l0 x3_1).f3).length c212_3) ∧ w'.cell? (ad212.add (((ji7)).toNat * 4)) = some (.string ((zqe l0 (ji7)).f0)) ∧ w'.cell? ⟨(ad212.add (((ji7)).toNat * 4)).block, (ad212.add (((ji7)).toNat * 4)).off + 1, none⟩ = some (.bool ((zqe l0 (ji7)).f1)) ∧ w'.cell? ⟨(ad212.add (((ji7)).toNat * 4)).block, (ad212.add (((ji7)).toNat * 4)).off + 2, none⟩ = some (.int .i64 ((zqe l0 (ji7)).f2)) ∧ w'.cell? ⟨(ad212.add (((ji7)).toNat * 4)).block, (ad212.add (((ji7)).toNat * 4)).off + 3, none⟩ = some (.slice A214_3 ((zqe l0 (ji7)).f3).length c214_3) ∧ w'.cell? (ad212.add ((x3_1).toNat * 4)) = some (.string ((zqe l0 x3_1).f0)) ∧ w'.cell? ⟨(ad212.add ((x3_1).toNat * 4)).block, (ad212.add ((x3_1).toNat * 4)).off + 1, none⟩ = some (.bool ((zqe l0 x3_1).f1)) ∧ w'.cell? ⟨(ad212.add ((x3_1).toNat * 4)).block, (ad212.add ((x3_1).toNat * 4)).off + 2, none⟩ = some (.int .i64 ((zqe l0 x3_1).f2)) ∧ w'.cell? ⟨(ad212.add ((x3_1).toNat * 4)).block, (ad212.add ((x3_1).toNat * 4)).off + 3, none⟩ = some (.slice A215_3 ((zqe l0 x3_1).f3).length c215_3)) (ds := []) #[false, false, false, false, false, false, false, false, false, false, false, false, false, false, false, false, false, false, false, false, false, false, false, false, false] (by kernel_rfl) rfl rfl ⟨((HB.out.cell (World.block_lt_of_cell? w _ hw212_0)).trans hw212_0), ((HB.out.cell (World.block_lt_of_cell? w _ hw212_1)).trans hw212_1), ((HB.out.cell (World.block_lt_of_cell? w _ hw212_2)).trans hw212_2), ((HB.out.cell (World.block_lt_of_cell? w _ hw212_3)).trans hw212_3), ((HB.out.cell (World.block_lt_of_cell? w _ hw214_0)).trans hw214_0), ((HB.out.cell (World.block_lt_of_cell? w _ hw214_1)).trans hw214_1), ((HB.out.cell (World.block_lt_of_cell? w _ hw214_2)).trans hw214_2), ((HB.out.cell (World.block_lt_of_cell? w _ hw214_3)).trans hw214_3), ((HB.out.cell (World.block_lt_of_cell? w _ hw215_0)).trans hw215_0), ((HB.out.cell (World.block_lt_of_cell? w _ hw215_1)).trans hw215_1), ((HB.out.cell (World.block_lt_of_cell? w _ hw215_2)).trans hw215_2), ((HB.out.cell (World.block_lt_of_cell? w _ hw215_3)).trans hw215_3)⟩ (fun hHeld => ?_); refine with_tabW chicaneref14_Right.tab4 chicaneref14_Right.bits4 (fun HT_ HW_ => ?_)
          generalize wr.drew = w11 at HB HR212_3 HR214_3 HR215_3 hx212_0 hx212_1 hx212_2 hx212_3 hx214_0 hx214_1 hx214_2 hx214_3 hx215_0 hx215_1 hx215_2 hx215_3 hHeld ⊢
          refine pure_ (i := 0) (N := some 10) (v := ?_) (a' := ?_) #[true, false, false, false, false, false, false, false, false, false, false, false, false, false, false, false, false, false, false, false, false, false, false, false, false] rfl rfl (any_of HT_.out (by kernel_rfl)) (fun _ _ _ h => h) (Or.inl ⟨by rfl, ?_⟩) ?_ ?_
          rotate_left
          ·intro w'
           go_simp
           with_reducible rfl
          rotate_left
          ·simp only [Act.put, List.setIfInBounds_toArray, List.set_cons_zero, List.set_cons_succ, i64_w, i32_w]
           rfl
          refine pure_ (i := 1) (N := some 11) (v := ?_) (a' := ?_) #[true, true, false, false, false, false, false, false, false, false, false, false, false, false, false, false, false, false, false, false, false, false, false, false, false] rfl rfl (any_of HT_.out (by kernel_rfl)) (fun _ _ _ h => h) (Or.inl ⟨by rfl, ?_⟩) ?_ ?_
          rotate_left
          ·intro w'
           go_simp
           with_reducible rfl
          rotate_left
          ·simp only [Act.put, List.setIfInBounds_toArray, List.set_cons_zero, List.set_cons_succ, i64_w, i32_w]
           rfl
          refine pure_ (i := 2) (N := some 12) (v := ?_) (a' := ?_) #[true, true, true, false, false, false, false, false, false, false, false, false, false, false, false, false, false, false, false, false, false, false, false, false, false] rfl rfl (any_of HT_.out (by kernel_rfl)) (fun _ _ _ h => h) (Or.inl ⟨by rfl, ?_⟩) ?_ ?_
          rotate_left
          ·intro w'
           go_simp
           with_reducible rfl
          rotate_left
          ·simp only [Act.put, List.setIfInBounds_toArray, List.set_cons_zero, List.set_cons_succ, i64_w, i32_w]
           rfl
          refine take_ (i := 3) (N := some 13) (v := ?_) (a' := ?_) #[true, true, true, true, false, false, false, false, false, false, false, false, false, false, false, false, false, false, false, false, false, false, false, false, false] rfl rfl (take_ofW HT_.out HW_.out (by kernel_rfl)) (fun _ _ _ h => h) (Or.inl ⟨by rfl, ?_⟩) hHeld ?_ ?_
          rotate_left
          ·rintro w' ⟨s0, s1, s2, s3, s4, s5, s6, s7, s8, s9, s10, s11⟩
           go_simp
           with_reducible rfl
          rotate_left
          ·simp only [Act.put, List.setIfInBounds_toArray, List.set_cons_zero, List.set_cons_succ, i64_w, i32_w]
           rfl
          refine one_ (i := 4) (N := some 14) #[true, true, true, true, true, false, false, false, false, false, false, false, false, false, false, false, false, false, false, false, false, false, false, false, false] rfl rfl (one_of HT_.out (by kernel_rfl)) (by decide) (fun K hK => ?_)
          refine goes_ Tryz.func27 (by kernel_rfl) rfl #[.agg #[.string ((zqe l0 x3_1).f0), .bool ((zqe l0 x3_1).f1), .int .i64 ((zqe l0 x3_1).f2), .slice A212_3 ((zqe l0 x3_1).f3).length c212_3]] (by rfl) rfl rfl (by (try simp only [List.map_toArray, List.map_cons, List.map_nil]); first | done | rfl | (simp only [List.length_drop, List.length_take]; rfl)) ?_
          with_reducible refine (chicaneref14_Check.calls k1 ((zqe l0 x3_1).f0) ((zqe l0 x3_1).f1) ((zqe l0 x3_1).f2) _ _ ((zqe l0 x3_1).f3) t213 _ ?side1 ?side2 A4.out).mono ?_
          (case side1 => repeat (first | exact (Kd.C_below HR212_3.out HB.out) | (with_reducible refine Kd.C_alloc ?_ _) | (with_reducible refine Kd.C_drewN ?_ _) | (with_reducible refine Kd.C_drew ?_)))
          (case side2 => exact HC212_3.out)
          rintro e w12 ⟨rfl, hb⟩
          refine ⟨_, rfl, ?_⟩
          have n0_ := zqd.mk (below_step (by repeat (first | (with_reducible first | exact HB.out | apply zqj | apply zqb | apply zqf) | exact HB.out)) hb)
          clear HB
          have HB := n0_
          clear n0_
          (try clear hb)
          (try clear hb2)
          (try clear hk)
          (try clear hi)
          refine hK.out _ _ ⟨((HB.out.cell (World.block_lt_of_cell? w _ hw212_0)).trans hw212_0), ((HB.out.cell (World.block_lt_of_cell? w _ hw212_1)).trans hw212_1), ((HB.out.cell (World.block_lt_of_cell? w _ hw212_2)).trans hw212_2), ((HB.out.cell (World.block_lt_of_cell? w _ hw212_3)).trans hw212_3), ((HB.out.cell (World.block_lt_of_cell? w _ hw214_0)).trans hw214_0), ((HB.out.cell (World.block_lt_of_cell? w _ hw214_1)).trans hw214_1), ((HB.out.cell (World.block_lt_of_cell? w _ hw214_2)).trans hw214_2), ((HB.out.cell (World.block_lt_of_cell? w _ hw214_3)).trans hw214_3), ((HB.out.cell (World.block_lt_of_cell? w _ hw215_0)).trans hw215_0), ((HB.out.cell (World.block_lt_of_cell? w _ hw215_1)).trans hw215_1), ((HB.out.cell (World.block_lt_of_cell? w _ hw215_2)).trans hw215_2), ((HB.out.cell (World.block_lt_of_cell? w _ hw215_3)).trans hw215_3)⟩ (fun hHeld => ?_)
          clear hK K
          refine norm_ (a' := ?_) ?_ ?_
          rotate_left
          ·show Act.put _ (some 14) _ = _
           simp only [Act.put, List.setIfInBounds_toArray, List.set_cons_zero, List.set_cons_succ, i64_w, i32_w]
           rfl
          refine pure_ (i := 5) (N := some 15) (v := ?_) (a' := ?_) #[true, true, true, true, true, true, false, false, false, false, false, false, false, false, false, false, false, false, false, false, false, false, false, false, false] rfl rfl (any_of HT_.out (by kernel_rfl)) (fun _ _ _ h => h) (Or.inl ⟨by rfl, ?_⟩) ?_ ?_
          rotate_left
          ·intro w'
           go_simp
           with_reducible rfl
          rotate_left
          ·simp only [Act.put, List.setIfInBounds_toArray, List.set_cons_zero, List.set_cons_succ, i64_w, i32_w]
           rfl
          refine pure_ (i := 6) (N := some 16) (v := ?_) (a' := ?_) #[true, true, true, true, true, true, true, false, false, false, false, false, false, false, false, false, false, false, false, false, false, false, false, false, false] rfl rfl (any_of HT_.out (by kernel_rfl)) (fun _ _ _ h => h) (Or.inl ⟨by rfl, ?_⟩) ?_ ?_
          rotate_left
          ·intro w'
           go_simp
           with_reducible rfl
          rotate_left
          ·simp only [Act.put, List.setIfInBounds_toArray, List.set_cons_zero, List.set_cons_succ, i64_w, i32_w]
           rfl
          refine pure_ (i := 7) (N := some 17) (v := ?_) (a' := ?_) #[true, true, true, true, true, true, true, true, false, false, false, false, false, false, false, false, false, false, false, false, false, false, false, false, false] rfl rfl (any_of HT_.out (by kernel_rfl)) (fun _ _ _ h => h) (Or.inl ⟨by rfl, ?_⟩) ?_ ?_
          rotate_left
          ·intro w'
           go_simp
           with_reducible rfl
          rotate_left
          ·simp only [Act.put, List.setIfInBounds_toArray, List.set_cons_zero, List.set_cons_succ, i64_w, i32_w]
           rfl
          refine pure_ (i := 8) (N := some 18) (v := ?_) (a' := ?_) #[true, true, true, true, true, true, true, true, true, false, false, false, false, false, false, false, false, false, false, false, false, false, false, false, false] rfl rfl (any_of HT_.out (by kernel_rfl)) (fun _ _ _ h => h) (Or.inl ⟨by rfl, ?_⟩) ?_ ?_
          rotate_left
          ·intro w'
           go_simp
           with_reducible rfl
          rotate_left
          ·simp only [Act.put, List.setIfInBounds_toArray, List.set_cons_zero, List.set_cons_succ, i64_w, i32_w]
           rfl
          refine pure_ (i := 9) (N := some 19) (v := ?_) (a' := ?_) #[true, true, true, true, true, true, true, true, true, true, false, false, false, false, false, false, false, false, false, false, false, false, false, false, false] rfl rfl (any_of HT_.out (by kernel_rfl)) (fun _ _ _ h => h) (Or.inl ⟨by rfl, ?_⟩) ?_ ?_
          rotate_left
          ·intro w'
           go_simp
           with_reducible rfl
          rotate_left
          ·simp only [Act.put, List.setIfInBounds_toArray, List.set_cons_zero, List.set_cons_succ, i64_w, i32_w]
           rfl
          refine pure_ (i := 10) (N := some 20) (v := ?_) (a' := ?_) #[true, true, true, true, true, true, true, true, true, true, true, false, false, false, false, false, false, false, false, false, false, false, false, false, false] rfl rfl (any_of HT_.out (by kernel_rfl)) (fun _ _ _ h => h) (Or.inl ⟨by rfl, ?_⟩) ?_ ?_
          rotate_left
          ·intro w'
           go_simp
           with_reducible rfl
          rotate_left
          ·simp only [Act.put, List.setIfInBounds_toArray, List.set_cons_zero, List.set_cons_succ, i64_w, i32_w]
           rfl
          refine pure_ (i := 11) (N := some 21) (v := ?_) (a' := ?_) #[true, true, true, true, true, true, true, true, true, true, true, true, false, false, false, false, false, false, false, false, false, false, false, false, false] rfl rfl (any_of HT_.out (by kernel_rfl)) (fun _ _ _ h => h) (Or.inl ⟨by rfl, ?_⟩) ?_ ?_
          rotate_left
          ·intro w'
           go_simp
           with_reducible rfl
          rotate_left
          ·simp only [Act.put, List.setIfInBounds_toArray, List.set_cons_zero, List.set_cons_succ, i64_w, i32_w]
           rfl
          refine pure_ (i := 12) (N := some 22) (v := ?_) (a' := ?_) #[true, true, true, true, true, true, true, true, true, true, true, true, true, false, false, false, false, false, false, false, false, false, false, false, false] rfl rfl (any_of HT_.out (by kernel_rfl)) (fun _ _ _ h => h) (Or.inl ⟨by rfl, ?_⟩) ?_ ?_
          rotate_left
          ·intro w'
           go_simp
           with_reducible rfl
          rotate_left
          ·simp only [Act.put, List.setIfInBounds_toArray, List.set_cons_zero, List.set_cons_succ, i64_w, i32_w]
           rfl
          refine pure_ (i := 13) (N := some 23) (v := ?_) (a' := ?_) #[true, true, true, true, true, true, true, true, true, true, true, true, true, true, false, false, false, false, false, false, false, false, false, false, false] rfl rfl (any_of HT_.out (by kernel_rfl)) (fun _ _ _ h => h) (Or.inl ⟨by rfl, ?_⟩) ?_ ?_
          rotate_left
          ·intro w'
           go_simp
           with_reducible rfl
          rotate_left
          ·simp only [Act.put, List.setIfInBounds_toArray, List.set_cons_zero, List.set_cons_succ, i64_w, i32_w]
           rfl
          refine pure_ (i := 14) (N := some 24) (v := ?_) (a' := ?_) #[true, true, true, true, true, true, true, true, true, true, true, true, true, true, true, false, false, false, false, false, false, false, false, false, false] rfl rfl (any_of HT_.out (by kernel_rfl)) (fun _ _ _ h => h) (Or.inl ⟨by rfl, ?_⟩) ?_ ?_
          rotate_left
          ·intro w'
           go_simp
           with_reducible rfl
          rotate_left
          ·simp only [Act.put, List.setIfInBounds_toArray, List.set_cons_zero, List.set_cons_succ, i64_w, i32_w]
           rfl
          refine pure_ (i := 16) (N := some 26) (v := ?_) (a' := ?_) #[true, true, true, true, true, true, true, true, true, true, true, true, true, true, true, false, true, false, false, false, false, false, false, false, false] rfl rfl (any_of HT_.out (by kernel_rfl)) (fun _ _ _ h => h) (Or.inl ⟨by rfl, ?_⟩) ?_ ?_
          rotate_left
          ·intro w'
           go_simp
           with_reducible rfl
          rotate_left
          ·simp only [Act.put, List.setIfInBounds_toArray, List.set_cons_zero, List.set_cons_succ, i64_w, i32_w]
           rfl
          refine pure_ (i := 17) (N := some 27) (v := ?_) (a' := ?_) #[true, true, true, true, true, true, true, true, true, true, true, true, true, true, true, false, true, true, false, false, false, false, false, false, false] rfl rfl (any_of HT_.out (by kernel_rfl)) (fun _ _ _ h => h) (Or.inl ⟨by rfl, ?_⟩) ?_ ?_
          rotate_left
          ·intro w'
           go_simp
           with_reducible rfl
          rotate_left
          ·simp only [Act.put, List.setIfInBounds_toArray, List.set_cons_zero, List.set_cons_succ, i64_w, i32_w]
           rfl
          refine pure_ (i := 18) (N := some 28) (v := ?_) (a' := ?_) #[true, true, true, true, true, true, true, true, true, true, true, true, true, true, true, false, true, true, true, false, false, false, false, false, false] rfl rfl (any_of HT_.out (by kernel_rfl)) (fun _ _ _ h => h) (Or.inl ⟨by rfl, ?_⟩) ?_ ?_
          rotate_left
          ·intro w'
           go_simp
           with_reducible rfl
          rotate_left
          ·simp only [Act.put, List.setIfInBounds_toArray, List.set_cons_zero, List.set_cons_succ, i64_w, i32_w]
           rfl
          refine pure_ (i := 19) (N := some 29) (v := ?_) (a' := ?_) #[true, true, true, true, true, true, true, true, true, true, true, true, true, true, true, false, true, true, true, true, false, false, false, false, false] rfl rfl (any_of HT_.out (by kernel_rfl)) (fun _ _ _ h => h) (Or.inl ⟨by rfl, ?_⟩) ?_ ?_
          rotate_left
          ·intro w'
           go_simp
           with_reducible rfl
          rotate_left
          ·simp only [Act.put, List.setIfInBounds_toArray, List.set_cons_zero, List.set_cons_succ, i64_w, i32_w]
           rfl
          refine take_ (i := 15) (N := some 25) (v := ?_) (a' := ?_) #[true, true, true, true, true, true, true, true, true, true, true, true, true, true, true, true, true, true, true, true, false, false, false, false, false] rfl rfl (take_ofW HT_.out HW_.out (by kernel_rfl)) (fun _ _ _ h => h) (Or.inl ⟨by rfl, ?_⟩) hHeld ?_ ?_
          rotate_left
          ·rintro w' ⟨s0, s1, s2, s3, s4, s5, s6, s7, s8, s9, s10, s11⟩
           go_simp
           with_reducible rfl
          rotate_left
          ·simp only [Act.put, List.setIfInBounds_toArray, List.set_cons_zero, List.set_cons_succ, i64_w, i32_w]
           rfl
          refine take_ (i := 20) (N := some 30) (v := ?_) (a' := ?_) #[true, true, true, true, true, true, true, true, true, true, true, true, true, true, true, true, true, true, true, true, true, false, false, false, false] rfl rfl (take_ofW HT_.out HW_.out (by kernel_rfl)) (fun _ _ _ h => h) (Or.inl ⟨by rfl, ?_⟩) hHeld ?_ ?_
          rotate_left
          ·rintro w' ⟨s0, s1, s2, s3, s4, s5, s6, s7, s8, s9, s10, s11⟩
           go_simp
           with_reducible rfl
          rotate_left
          ·simp only [Act.put, List.setIfInBounds_toArray, List.set_cons_zero, List.set_cons_succ, i64_w, i32_w]
           rfl
          refine pure_ (i := 21) (N := some 31) (v := ?_) (a' := ?_) #[true, true, true, true, true, true, true, true, true, true, true, true, true, true, true, true, true, true, true, true, true, true, false, false, false] rfl rfl (any_of HT_.out (by kernel_rfl)) (fun _ _ _ h => h) (Or.inl ⟨by rfl, ?_⟩) ?_ ?_
          rotate_left
          ·intro w'
           go_simp
           with_reducible rfl
          rotate_left
          ·simp only [Act.put, List.setIfInBounds_toArray, List.set_cons_zero, List.set_cons_succ, i64_w, i32_w]
           rfl
          refine pure_ (i := 22) (N := some 32) (v := ?_) (a' := ?_) #[true, true, true, true, true, true, true, true, true, true, true, true, true, true, true, true, true, true, true, true, true, true, true, false, false] rfl rfl (any_of HT_.out (by kernel_rfl)) (fun _ _ _ h => h) (Or.inl ⟨by rfl, ?_⟩) ?_ ?_
          rotate_left
          ·intro w'
           go_simp
           with_reducible rfl
          rotate_left
          ·simp only [Act.put, List.setIfInBounds_toArray, List.set_cons_zero, List.set_cons_succ, i64_w, i32_w]
           rfl
          refine pure_ (i := 23) (N := some 33) (v := ?_) (a' := ?_) #[true, true, true, true, true, true, true, true, true, true, true, true, true, true, true, true, true, true, true, true, true, true, true, true, false] rfl rfl (any_of HT_.out (by kernel_rfl)) (fun _ _ _ h => h) (Or.inl ⟨by rfl, ?_⟩) ?_ ?_
          rotate_left
          ·intro w'
           go_simp
           with_reducible rfl
          rotate_left
          ·simp only [Act.put, List.setIfInBounds_toArray, List.set_cons_zero, List.set_cons_succ, i64_w, i32_w]
           rfl
          refine pure_ (i := 24) (N := some 34) (v := ?_) (a' := ?_) #[true, true, true, true, true, true, true, true, true, true, true, true, true, true, true, true, true, true, true, true, true, true, true, true, true] rfl rfl (any_of HT_.out (by kernel_rfl)) (fun _ _ _ h => h) (Or.inl ⟨by rfl, ?_⟩) ?_ ?_
          rotate_left
          ·intro w'
           go_simp
           with_reducible rfl
          rotate_left
          ·simp only [Act.put, List.setIfInBounds_toArray, List.set_cons_zero, List.set_cons_succ, i64_w, i32_w]
           rfl
          refine done_ (done_of HT_.out (by kernel_rfl)) ?_
          try go_wp2
          go_roundg k1
          case measure => have := HK1.out; omega
          case rel => exact ⟨(wrap64 (x3_1 + 1)), (by first | rfl | (simp; done) | (simp [*]; done)), H', ⟨by have := HK1.out; omega⟩, ⟨by repeat (first | (with_reducible first | exact HB.out | apply zqj | apply zqb | apply zqf) | exact HB.out)⟩⟩
         ·rw [if_neg c10] at H
          have c10b0 : (Op.bytesLess (((zqe l0 (ji7)).f0).toList) (((zqe l0 x3_1).f0).toList)) = false := by simpa using c10
          clear c10
          obtain rfl := Option.some.inj H
          try go_wp2
          have n0_ := zqd.mk (zqf HB.out)
          clear HB
          have HB := n0_
          clear n0_
          have p212 : 0 ≤ (x3_1 : Int) := of_decide_eq_true (by first | (with_reducible assumption) | assumption)
          have q212 : x3_1 < (l0.length : Int) := of_decide_eq_true (by first | (with_reducible assumption) | assumption)
          obtain ⟨ad212, A212_3, c212_3, e212, hx212_0, hx212_1, hx212_2, hx212_3, hl212_3, hi212_3⟩ := at_T39 HR0.out x3_1 p212 q212
          have hw212_3 := hx212_3
          have hw212_2 := hx212_2
          have hw212_1 := hx212_1
          have hw212_0 := hx212_0
          cases e212
          replace hx212_0 := (HB.out.cell (World.block_lt_of_cell? w _ hx212_0)).trans hx212_0
          replace hx212_1 := (HB.out.cell (World.block_lt_of_cell? w _ hx212_1)).trans hx212_1
          replace hx212_2 := (HB.out.cell (World.block_lt_of_cell? w _ hx212_2)).trans hx212_2
          replace hx212_3 := (HB.out.cell (World.block_lt_of_cell? w _ hx212_3)).trans hx212_3
          have HR212_3 := zqd.mk hi212_3
          have HC212_3 := zqd.mk hl212_3
          clear hi212_3 hl212_3
          replace p212 := eq_true p212
          replace q212 := eq_true q212
          have p214 : 0 ≤ ((ji7) : Int) := of_decide_eq_true (by first | (with_reducible assumption) | assumption)
          have q214 : (ji7) < (l0.length : Int) := of_decide_eq_true (by first | (with_reducible assumption) | assumption)
          obtain ⟨ad214, A214_3, c214_3, e214, hx214_0, hx214_1, hx214_2, hx214_3, hl214_3, hi214_3⟩ := at_T39 HR0.out (ji7) p214 q214
          have hw214_3 := hx214_3
          have hw214_2 := hx214_2
          have hw214_1 := hx214_1
          have hw214_0 := hx214_0
          obtain rfl : ad212 = ad214 := (by injection e214)
          replace hx214_0 := (HB.out.cell (World.block_lt_of_cell? w _ hx214_0)).trans hx214_0
          replace hx214_1 := (HB.out.cell (World.block_lt_of_cell? w _ hx214_1)).trans hx214_1
          replace hx214_2 := (HB.out.cell (World.block_lt_of_cell? w _ hx214_2)).trans hx214_2
          replace hx214_3 := (HB.out.cell (World.block_lt_of_cell? w _ hx214_3)).trans hx214_3
          have HR214_3 := zqd.mk hi214_3
          have HC214_3 := zqd.mk hl214_3
          clear hi214_3 hl214_3
          replace p214 := eq_true p214
          replace q214 := eq_true q214
          have p215 : 0 ≤ (x3_1 : Int) := of_decide_eq_true (by first | (with_reducible assumption) | assumption)
          have q215 : x3_1 < (l0.length : Int) := of_decide_eq_true (by first | (with_reducible assumption) | assumption)
          obtain ⟨ad215, A215_3, c215_3, e215, hx215_0, hx215_1, hx215_2, hx215_3, hl215_3, hi215_3⟩ := at_T39 HR0.out x3_1 p215 q215
          have hw215_3 := hx215_3
          have hw215_2 := hx215_2
          have hw215_1 := hx215_1
          have hw215_0 := hx215_0
          obtain rfl : ad212 = ad215 := (by injection e215)
          replace hx215_0 := (HB.out.cell (World.block_lt_of_cell? w _ hx215_0)).trans hx215_0
          replace hx215_1 := (HB.out.cell (World.block_lt_of_cell? w _ hx215_1)).trans hx215_1
          replace hx215_2 := (HB.out.cell (World.block_lt_of_cell? w _ hx215_2)).trans hx215_2
          replace hx215_3 := (HB.out.cell (World.block_lt_of_cell? w _ hx215_3)).trans hx215_3
          have HR215_3 := zqd.mk hi215_3
          have HC215_3 := zqd.mk hl215_3
          clear hi215_3 hl215_3
          replace p215 := eq_true p215
          replace q215 := eq_true q215
          refine start_ (n := 25) (S := fun w' => w'.cell? (ad212.add ((x3_1).toNat * 4)) = some (.string ((zqe l0 x3_1).f0)) ∧ w'.cell? ⟨(ad212.add ((x3_1).toNat * 4)).block, (ad212.add ((x3_1).toNat * 4)).off + 1, none⟩ = some (.bool ((zqe l0 x3_1).f1)) ∧ w'.cell? ⟨(ad212.add ((x3_1).toNat * 4)).block, (ad212.add ((x3_1).toNat * 4)).off + 2, none⟩ = some (.int .i64 ((zqe l0 x3_1).f2)) ∧ w'.cell? ⟨(ad212.add ((x3_1).toNat * 4)).block, (ad212.add ((x3_1).toNat * 4)).off + 3, none⟩ = some (.slice A212_3 ((zqe l0 x3_1).f3).length c212_3) ∧ w'.cell? (ad212.add (((ji7)).toNat * 4)) = some (.string ((zqe l0 (ji7)).f0)) ∧ w'.cell? ⟨(ad212.add (((ji7)).toNat * 4)).block, (ad212.add (((ji7)).toNat * 4)).off + 1, none⟩ = some (.bool ((zqe l0 (ji7)).f1)) ∧ w'.cell? ⟨(ad212.add (((ji7)).toNat * 4)).block, (ad212.add (((ji7)).toNat * 4)).off + 2, none⟩ = some (.int .i64 ((zqe l0 (ji7)).f2)) ∧ w'.cell? ⟨(ad212.add (((ji7)).toNat * 4)).block, (ad212.add (((ji7)).toNat * 4)).off + 3, none⟩ = some (.slice A214_3 ((zqe l0 (ji7)).f3).length c214_3) ∧ w'.cell? (ad212.add ((x3_1).toNat * 4)) = some (.string ((zqe l0 x3_1).f0)) ∧ w'.cell? ⟨(ad212.add ((x3_1).toNat * 4)).block, (ad212.add ((x3_1).toNat * 4)).off + 1, none⟩ = some (.bool ((zqe l0 x3_1).f1)) ∧ w'.cell? ⟨(ad212.add ((x3_1).toNat * 4)).block, (ad212.add ((x3_1).toNat * 4)).off + 2, none⟩ = some (.int .i64 ((zqe l0 x3_1).f2)) ∧ w'.cell? ⟨(ad212.add ((x3_1).toNat * 4)).block, (ad212.add ((x3_1).toNat * 4)).off + 3, none⟩ = some (.slice A215_3 ((zqe l0 x3_1).f3).length c215_3)) (ds := []) #[false, false, false, false, false, false, false, false, false, false, false, false, false, false, false, false, false, false, false, false, false, false, false, false, false] (by kernel_rfl) rfl rfl ⟨((HB.out.cell (World.block_lt_of_cell? w _ hw212_0)).trans hw212_0), ((HB.out.cell (World.block_lt_of_cell? w _ hw212_1)).trans hw212_1), ((HB.out.cell (World.block_lt_of_cell? w _ hw212_2)).trans hw212_2), ((HB.out.cell (World.block_lt_of_cell? w _ hw212_3)).trans hw212_3), ((HB.out.cell (World.block_lt_of_cell? w _ hw214_0)).trans hw214_0), ((HB.out.cell (World.block_lt_of_cell? w _ hw214_1)).trans hw214_1), ((HB.out.cell (World.block_lt_of_cell? w _ hw214_2)).trans hw214_2), ((HB.out.cell (World.block_lt_of_cell? w _ hw214_3)).trans hw214_3), ((HB.out.cell (World.block_lt_of_cell? w _ hw215_0)).trans hw215_0), ((HB.out.cell (World.block_lt_of_cell? w _ hw215_1)).trans hw215_1), ((HB.out.cell (World.block_lt_of_cell? w _ hw215_2)).trans hw215_2), ((HB.out.cell (World.block_lt_of_cell? w _ hw215_3)).trans hw215_3)⟩ (fun hHeld => ?_); refine with_tabW chicaneref14_Right.tab4 chicaneref14_Right.bits4 (fun HT_ HW_ => ?_)
          generalize wr.drew = w13 at HB HR212_3 HR214_3 HR215_3 hx212_0 hx212_1 hx212_2 hx212_3 hx214_0 hx214_1 hx214_2 hx214_3 hx215_0 hx215_1 hx215_2 hx215_3 hHeld ⊢
          refine pure_ (i := 0) (N := some 10) (v := ?_) (a' := ?_) #[true, false, false, false, false, false, false, false, false, false, false, false, false, false, false, false, false, false, false, false, false, false, false, false, false] rfl rfl (any_of HT_.out (by kernel_rfl)) (fun _ _ _ h => h) (Or.inl ⟨by rfl, ?_⟩) ?_ ?_
          rotate_left
          ·intro w'
           go_simp
           with_reducible rfl
          rotate_left
          ·simp only [Act.put, List.setIfInBounds_toArray, List.set_cons_zero, List.set_cons_succ, i64_w, i32_w]
           rfl
          refine pure_ (i := 1) (N := some 11) (v := ?_) (a' := ?_) #[true, true, false, false, false, false, false, false, false, false, false, false, false, false, false, false, false, false, false, false, false, false, false, false, false] rfl rfl (any_of HT_.out (by kernel_rfl)) (fun _ _ _ h => h) (Or.inl ⟨by rfl, ?_⟩) ?_ ?_
          rotate_left
          ·intro w'
           go_simp
           with_reducible rfl
          rotate_left
          ·simp only [Act.put, List.setIfInBounds_toArray, List.set_cons_zero, List.set_cons_succ, i64_w, i32_w]
           rfl
          refine pure_ (i := 2) (N := some 12) (v := ?_) (a' := ?_) #[true, true, true, false, false, false, false, false, false, false, false, false, false, false, false, false, false, false, false, false, false, false, false, false, false] rfl rfl (any_of HT_.out (by kernel_rfl)) (fun _ _ _ h => h) (Or.inl ⟨by rfl, ?_⟩) ?_ ?_
          rotate_left
          ·intro w'
           go_simp
           with_reducible rfl
          rotate_left
          ·simp only [Act.put, List.setIfInBounds_toArray, List.set_cons_zero, List.set_cons_succ, i64_w, i32_w]
           rfl
          refine take_ (i := 3) (N := some 13) (v := ?_) (a' := ?_) #[true, true, true, true, false, false, false, false, false, false, false, false, false, false, false, false, false, false, false, false, false, false, false, false, false] rfl rfl (take_ofW HT_.out HW_.out (by kernel_rfl)) (fun _ _ _ h => h) (Or.inl ⟨by rfl, ?_⟩) hHeld ?_ ?_
          rotate_left
          ·rintro w' ⟨s0, s1, s2, s3, s4, s5, s6, s7, s8, s9, s10, s11⟩
           go_simp
           with_reducible rfl
          rotate_left
          ·simp only [Act.put, List.setIfInBounds_toArray, List.set_cons_zero, List.set_cons_succ, i64_w, i32_w]
           rfl
          refine one_ (i := 4) (N := some 14) #[true, true, true, true, true, false, false, false, false, false, false, false, false, false, false, false, false, false, false, false, false, false, false, false, false] rfl rfl (one_of HT_.out (by kernel_rfl)) (by decide) (fun K hK => ?_)
          refine goes_ Tryz.func27 (by kernel_rfl) rfl #[.agg #[.string ((zqe l0 x3_1).f0), .bool ((zqe l0 x3_1).f1), .int .i64 ((zqe l0 x3_1).f2), .slice A212_3 ((zqe l0 x3_1).f3).length c212_3]] (by rfl) rfl rfl (by (try simp only [List.map_toArray, List.map_cons, List.map_nil]); first | done | rfl | (simp only [List.length_drop, List.length_take]; rfl)) ?_
          with_reducible refine (chicaneref14_Check.calls k1 ((zqe l0 x3_1).f0) ((zqe l0 x3_1).f1) ((zqe l0 x3_1).f2) _ _ ((zqe l0 x3_1).f3) t213 _ ?side1 ?side2 A4.out).mono ?_
          (case side1 => repeat (first | exact (Kd.C_below HR212_3.out HB.out) | (with_reducible refine Kd.C_alloc ?_ _) | (with_reducible refine Kd.C_drewN ?_ _) | (with_reducible refine Kd.C_drew ?_)))
          (case side2 => exact HC212_3.out)
          rintro e w14 ⟨rfl, hb⟩
          refine ⟨_, rfl, ?_⟩
          have n0_ := zqd.mk (below_step (by repeat (first | (with_reducible first | exact HB.out | apply zqj | apply zqb | apply zqf) | exact HB.out)) hb)
          clear HB
          have HB := n0_
          clear n0_
          (try clear hb)
          (try clear hb2)
          (try clear hk)
          (try clear hi)
          refine hK.out _ _ ⟨((HB.out.cell (World.block_lt_of_cell? w _ hw212_0)).trans hw212_0), ((HB.out.cell (World.block_lt_of_cell? w _ hw212_1)).trans hw212_1), ((HB.out.cell (World.block_lt_of_cell? w _ hw212_2)).trans hw212_2), ((HB.out.cell (World.block_lt_of_cell? w _ hw212_3)).trans hw212_3), ((HB.out.cell (World.block_lt_of_cell? w _ hw214_0)).trans hw214_0), ((HB.out.cell (World.block_lt_of_cell? w _ hw214_1)).trans hw214_1), ((HB.out.cell (World.block_lt_of_cell? w _ hw214_2)).trans hw214_2), ((HB.out.cell (World.block_lt_of_cell? w _ hw214_3)).trans hw214_3), ((HB.out.cell (World.block_lt_of_cell? w _ hw215_0)).trans hw215_0), ((HB.out.cell (World.block_lt_of_cell? w _ hw215_1)).trans hw215_1), ((HB.out.cell (World.block_lt_of_cell? w _ hw215_2)).trans hw215_2), ((HB.out.cell (World.block_lt_of_cell? w _ hw215_3)).trans hw215_3)⟩ (fun hHeld => ?_)
          clear hK K
          refine norm_ (a' := ?_) ?_ ?_
          rotate_left
          ·show Act.put _ (some 14) _ = _
           simp only [Act.put, List.setIfInBounds_toArray, List.set_cons_zero, List.set_cons_succ, i64_w, i32_w]
           rfl
          refine pure_ (i := 5) (N := some 15) (v := ?_) (a' := ?_) #[true, true, true, true, true, true, false, false, false, false, false, false, false, false, false, false, false, false, false, false, false, false, false, false, false] rfl rfl (any_of HT_.out (by kernel_rfl)) (fun _ _ _ h => h) (Or.inl ⟨by rfl, ?_⟩) ?_ ?_
          rotate_left
          ·intro w'
           go_simp
           with_reducible rfl
          rotate_left
          ·simp only [Act.put, List.setIfInBounds_toArray, List.set_cons_zero, List.set_cons_succ, i64_w, i32_w]
           rfl
          refine pure_ (i := 6) (N := some 16) (v := ?_) (a' := ?_) #[true, true, true, true, true, true, true, false, false, false, false, false, false, false, false, false, false, false, false, false, false, false, false, false, false] rfl rfl (any_of HT_.out (by kernel_rfl)) (fun _ _ _ h => h) (Or.inl ⟨by rfl, ?_⟩) ?_ ?_
          rotate_left
          ·intro w'
           go_simp
           with_reducible rfl
          rotate_left
          ·simp only [Act.put, List.setIfInBounds_toArray, List.set_cons_zero, List.set_cons_succ, i64_w, i32_w]
           rfl
          refine pure_ (i := 7) (N := some 17) (v := ?_) (a' := ?_) #[true, true, true, true, true, true, true, true, false, false, false, false, false, false, false, false, false, false, false, false, false, false, false, false, false] rfl rfl (any_of HT_.out (by kernel_rfl)) (fun _ _ _ h => h) (Or.inl ⟨by rfl, ?_⟩) ?_ ?_
          rotate_left
          ·intro w'
           go_simp
           with_reducible rfl
          rotate_left
          ·simp only [Act.put, List.setIfInBounds_toArray, List.set_cons_zero, List.set_cons_succ, i64_w, i32_w]
           rfl
          refine pure_ (i := 8) (N := some 18) (v := ?_) (a' := ?_) #[true, true, true, true, true, true, true, true, true, false, false, false, false, false, false, false, false, false, false, false, false, false, false, false, false] rfl rfl (any_of HT_.out (by kernel_rfl)) (fun _ _ _ h => h) (Or.inl ⟨by rfl, ?_⟩) ?_ ?_
          rotate_left
          ·intro w'
           go_simp
           with_reducible rfl
          rotate_left
          ·simp only [Act.put, List.setIfInBounds_toArray, List.set_cons_zero, List.set_cons_succ, i64_w, i32_w]
           rfl
          refine pure_ (i := 9) (N := some 19) (v := ?_) (a' := ?_) #[true, true, true, true, true, true, true, true, true, true, false, false, false, false, false, false, false, false, false, false, false, false, false, false, false] rfl rfl (any_of HT_.out (by kernel_rfl)) (fun _ _ _ h => h) (Or.inl ⟨by rfl, ?_⟩) ?_ ?_
          rotate_left
          ·intro w'
           go_simp
           with_reducible rfl
          rotate_left
          ·simp only [Act.put, List.setIfInBounds_toArray, List.set_cons_zero, List.set_cons_succ, i64_w, i32_w]
           rfl
          refine pure_ (i := 10) (N := some 20) (v := ?_) (a' := ?_) #[true, true, true, true, true, true, true, true, true, true, true, false, false, false, false, false, false, false, false, false, false, false, false, false, false] rfl rfl (any_of HT_.out (by kernel_rfl)) (fun _ _ _ h => h) (Or.inl ⟨by rfl, ?_⟩) ?_ ?_
          rotate_left
          ·intro w'
           go_simp
           with_reducible rfl
          rotate_left
          ·simp only [Act.put, List.setIfInBounds_toArray, List.set_cons_zero, List.set_cons_succ, i64_w, i32_w]
           rfl
          refine pure_ (i := 11) (N := some 21) (v := ?_) (a' := ?_) #[true, true, true, true, true, true, true, true, true, true, true, true, false, false, false, false, false, false, false, false, false, false, false, false, false] rfl rfl (any_of HT_.out (by kernel_rfl)) (fun _ _ _ h => h) (Or.inl ⟨by rfl, ?_⟩) ?_ ?_
          rotate_left
          ·intro w'
           go_simp
           with_reducible rfl
          rotate_left
          ·simp only [Act.put, List.setIfInBounds_toArray, List.set_cons_zero, List.set_cons_succ, i64_w, i32_w]
           rfl
          refine pure_ (i := 12) (N := some 22) (v := ?_) (a' := ?_) #[true, true, true, true, true, true, true, true, true, true, true, true, true, false, false, false, false, false, false, false, false, false, false, false, false] rfl rfl (any_of HT_.out (by kernel_rfl)) (fun _ _ _ h => h) (Or.inl ⟨by rfl, ?_⟩) ?_ ?_
          rotate_left
          ·intro w'
           go_simp
           with_reducible rfl
          rotate_left
          ·simp only [Act.put, List.setIfInBounds_toArray, List.set_cons_zero, List.set_cons_succ, i64_w, i32_w]
           rfl
          refine pure_ (i := 13) (N := some 23) (v := ?_) (a' := ?_) #[true, true, true, true, true, true, true, true, true, true, true, true, true, true, false, false, false, false, false, false, false, false, false, false, false] rfl rfl (any_of HT_.out (by kernel_rfl)) (fun _ _ _ h => h) (Or.inl ⟨by rfl, ?_⟩) ?_ ?_
          rotate_left
          ·intro w'
           go_simp
           with_reducible rfl
          rotate_left
          ·simp only [Act.put, List.setIfInBounds_toArray, List.set_cons_zero, List.set_cons_succ, i64_w, i32_w]
           rfl
          refine pure_ (i := 14) (N := some 24) (v := ?_) (a' := ?_) #[true, true, true, true, true, true, true, true, true, true, true, true, true, true, true, false, false, false, false, false, false, false, false, false, false] rfl rfl (any_of HT_.out (by kernel_rfl)) (fun _ _ _ h => h) (Or.inl ⟨by rfl, ?_⟩) ?_ ?_
          rotate_left
          ·intro w'
           go_simp
           with_reducible rfl
          rotate_left
          ·simp only [Act.put, List.setIfInBounds_toArray, List.set_cons_zero, List.set_cons_succ, i64_w, i32_w]
           rfl
          refine pure_ (i := 16) (N := some 26) (v := ?_) (a' := ?_) #[true, true, true, true, true, true, true, true, true, true, true, true, true, true, true, false, true, false, false, false, false, false, false, false, false] rfl rfl (any_of HT_.out (by kernel_rfl)) (fun _ _ _ h => h) (Or.inl ⟨by rfl, ?_⟩) ?_ ?_
          rotate_left
          ·intro w'
           go_simp
           with_reducible rfl
          rotate_left
          ·simp only [Act.put, List.setIfInBounds_toArray, List.set_cons_zero, List.set_cons_succ, i64_w, i32_w]
           rfl
          refine pure_ (i := 17) (N := some 27) (v := ?_) (a' := ?_) #[true, true, true, true, true, true, true, true, true, true, true, true, true, true, true, false, true, true, false, false, false, false, false, false, false] rfl rfl (any_of HT_.out (by kernel_rfl)) (fun _ _ _ h => h) (Or.inl ⟨by rfl, ?_⟩) ?_ ?_
          rotate_left
          ·intro w'
           go_simp
           with_reducible rfl
          rotate_left
          ·simp only [Act.put, List.setIfInBounds_toArray, List.set_cons_zero, List.set_cons_succ, i64_w, i32_w]
           rfl
          refine pure_ (i := 18) (N := some 28) (v := ?_) (a' := ?_) #[true, true, true, true, true, true, true, true, true, true, true, true, true, true, true, false, true, true, true, false, false, false, false, false, false] rfl rfl (any_of HT_.out (by kernel_rfl)) (fun _ _ _ h => h) (Or.inl ⟨by rfl, ?_⟩) ?_ ?_
          rotate_left
          ·intro w'
           go_simp
           with_reducible rfl
          rotate_left
          ·simp only [Act.put, List.setIfInBounds_toArray, List.set_cons_zero, List.set_cons_succ, i64_w, i32_w]
           rfl
          refine pure_ (i := 19) (N := some 29) (v := ?_) (a' := ?_) #[true, true, true, true, true, true, true, true, true, true, true, true, true, true, true, false, true, true, true, true, false, false, false, false, false] rfl rfl (any_of HT_.out (by kernel_rfl)) (fun _ _ _ h => h) (Or.inl ⟨by rfl, ?_⟩) ?_ ?_
          rotate_left
          ·intro w'
           go_simp
           with_reducible rfl
          rotate_left
          ·simp only [Act.put, List.setIfInBounds_toArray, List.set_cons_zero, List.set_cons_succ, i64_w, i32_w]
           rfl
          refine take_ (i := 15) (N := some 25) (v := ?_) (a' := ?_) #[true, true, true, true, true, true, true, true, true, true, true, true, true, true, true, true, true, true, true, true, false, false, false, false, false] rfl rfl (take_ofW HT_.out HW_.out (by kernel_rfl)) (fun _ _ _ h => h) (Or.inl ⟨by rfl, ?_⟩) hHeld ?_ ?_
          rotate_left
          ·rintro w' ⟨s0, s1, s2, s3, s4, s5, s6, s7, s8, s9, s10, s11⟩
           go_simp
           with_reducible rfl
          rotate_left
          ·simp only [Act.put, List.setIfInBounds_toArray, List.set_cons_zero, List.set_cons_succ, i64_w, i32_w]
           rfl
          refine take_ (i := 20) (N := some 30) (v := ?_) (a' := ?_) #[true, true, true, true, true, true, true, true, true, true, true, true, true, true, true, true, true, true, true, true, true, false, false, false, false] rfl rfl (take_ofW HT_.out HW_.out (by kernel_rfl)) (fun _ _ _ h => h) (Or.inl ⟨by rfl, ?_⟩) hHeld ?_ ?_
          rotate_left
          ·rintro w' ⟨s0, s1, s2, s3, s4, s5, s6, s7, s8, s9, s10, s11⟩
           go_simp
           with_reducible rfl
          rotate_left
          ·simp only [Act.put, List.setIfInBounds_toArray, List.set_cons_zero, List.set_cons_succ, i64_w, i32_w]
           rfl
          refine pure_ (i := 21) (N := some 31) (v := ?_) (a' := ?_) #[true, true, true, true, true, true, true, true, true, true, true, true, true, true, true, true, true, true, true, true, true, true, false, false, false] rfl rfl (any_of HT_.out (by kernel_rfl)) (fun _ _ _ h => h) (Or.inl ⟨by rfl, ?_⟩) ?_ ?_
          rotate_left
          ·intro w'
           go_simp
           with_reducible rfl
          rotate_left
          ·simp only [Act.put, List.setIfInBounds_toArray, List.set_cons_zero, List.set_cons_succ, i64_w, i32_w]
           rfl
          refine pure_ (i := 22) (N := some 32) (v := ?_) (a' := ?_) #[true, true, true, true, true, true, true, true, true, true, true, true, true, true, true, true, true, true, true, true, true, true, true, false, false] rfl rfl (any_of HT_.out (by kernel_rfl)) (fun _ _ _ h => h) (Or.inl ⟨by rfl, ?_⟩) ?_ ?_
          rotate_left
          ·intro w'
           go_simp
           with_reducible rfl
          rotate_left
          ·simp only [Act.put, List.setIfInBounds_toArray, List.set_cons_zero, List.set_cons_succ, i64_w, i32_w]
           rfl
          refine pure_ (i := 23) (N := some 33) (v := ?_) (a' := ?_) #[true, true, true, true, true, true, true, true, true, true, true, true, true, true, true, true, true, true, true, true, true, true, true, true, false] rfl rfl (any_of HT_.out (by kernel_rfl)) (fun _ _ _ h => h) (Or.inl ⟨by rfl, ?_⟩) ?_ ?_
          rotate_left
          ·intro w'
           go_simp
           with_reducible rfl
          rotate_left
          ·simp only [Act.put, List.setIfInBounds_toArray, List.set_cons_zero, List.set_cons_succ, i64_w, i32_w]
           rfl
          refine pure_ (i := 24) (N := some 34) (v := ?_) (a' := ?_) #[true, true, true, true, true, true, true, true, true, true, true, true, true, true, true, true, true, true, true, true, true, true, true, true, true] rfl rfl (any_of HT_.out (by kernel_rfl)) (fun _ _ _ h => h) (Or.inl ⟨by rfl, ?_⟩) ?_ ?_
          rotate_left
          ·intro w'
           go_simp
           with_reducible rfl
          rotate_left
          ·simp only [Act.put, List.setIfInBounds_toArray, List.set_cons_zero, List.set_cons_succ, i64_w, i32_w]
           rfl
          refine done_ (done_of HT_.out (by kernel_rfl)) ?_
          try go_wp2
          go_ret
          exact ⟨by first | rfl | (simp [errW_none, errW_some] <;> rfl) | (simp only [← hji7]; first | rfl | (simp [errW_none, errW_some] <;> rfl)) | (simp [*, errW_none, errW_some] <;> rfl), by repeat (first | (with_reducible first | exact HB.out | apply zqj | apply zqb | apply zqf) | exact HB.out)⟩
        ·rw [if_neg c9] at H
         exact absurd H (by simp)
       ·rw [if_neg c8] at H
        exact absurd H (by simp)
      ·rw [if_neg c6] at H
       have c6b0 : decide (0 < x3_1) = false := decide_eq_false c6
       clear c6
       have H' := zqd.mk H
       clear H
       try go_wp2
       have n0_ := zqd.mk (zqf HB.out)
       clear HB
       have HB := n0_
       clear n0_
       have p212 : 0 ≤ (x3_1 : Int) := of_decide_eq_true (by first | (with_reducible assumption) | assumption)
       have q212 : x3_1 < (l0.length : Int) := of_decide_eq_true (by first | (with_reducible assumption) | assumption)
       obtain ⟨ad212, A212_3, c212_3, e212, hx212_0, hx212_1, hx212_2, hx212_3, hl212_3, hi212_3⟩ := at_T39 HR0.out x3_1 p212 q212
       have hw212_3 := hx212_3
       have hw212_2 := hx212_2
       have hw212_1 := hx212_1
       have hw212_0 := hx212_0
       cases e212
       replace hx212_0 := (HB.out.cell (World.block_lt_of_cell? w _ hx212_0)).trans hx212_0
       replace hx212_1 := (HB.out.cell (World.block_lt_of_cell? w _ hx212_1)).trans hx212_1
       replace hx212_2 := (HB.out.cell (World.block_lt_of_cell? w _ hx212_2)).trans hx212_2
       replace hx212_3 := (HB.out.cell (World.block_lt_of_cell? w _ hx212_3)).trans hx212_3
       have HR212_3 := zqd.mk hi212_3
       have HC212_3 := zqd.mk hl212_3
       clear hi212_3 hl212_3
       replace p212 := eq_true p212
       replace q212 := eq_true q212
       refine start_ (n := 25) (S := fun w' => w'.cell? (ad212.add ((x3_1).toNat * 4)) = some (.string ((zqe l0 x3_1).f0)) ∧ w'.cell? ⟨(ad212.add ((x3_1).toNat * 4)).block, (ad212.add ((x3_1).toNat * 4)).off + 1, none⟩ = some (.bool ((zqe l0 x3_1).f1)) ∧ w'.cell? ⟨(ad212.add ((x3_1).toNat * 4)).block, (ad212.add ((x3_1).toNat * 4)).off + 2, none⟩ = some (.int .i64 ((zqe l0 x3_1).f2)) ∧ w'.cell? ⟨(ad212.add ((x3_1).toNat * 4)).block, (ad212.add ((x3_1).toNat * 4)).off + 3, none⟩ = some (.slice A212_3 ((zqe l0 x3_1).f3).length c212_3)) (ds := []) #[false, false, false, false, false, false, false, false, false, false, false, false, false, false, false, false, false, false, false, false, false, false, false, false, false] (by kernel_rfl) rfl rfl ⟨((HB.out.cell (World.block_lt_of_cell? w _ hw212_0)).trans hw212_0), ((HB.out.cell (World.block_lt_of_cell? w _ hw212_1)).trans hw212_1), ((HB.out.cell (World.block_lt_of_cell? w _ hw212_2)).trans hw212_2), ((HB.out.cell (World.block_lt_of_cell? w _ hw212_3)).trans hw212_3)⟩ (fun hHeld => ?_); refine with_tabW chicaneref14_Right.tab4 chicaneref14_Right.bits4 (fun HT_ HW_ => ?_)
       generalize wr.drew = w15 at HB HR212_3 hx212_0 hx212_1 hx212_2 hx212_3 hHeld ⊢
       refine pure_ (i := 0) (N := some 10) (v := ?_) (a' := ?_) #[true, false, false, false, false, false, false, false, false, false, false, false, false, false, false, false, false, false, false, false, false, false, false, false, false] rfl rfl (any_of HT_.out (by kernel_rfl)) (fun _ _ _ h => h) (Or.inl ⟨by rfl, ?_⟩) ?_ ?_
       rotate_left
       ·intro w'
        go_simp
        with_reducible rfl
       rotate_left
       ·simp only [Act.put, List.setIfInBounds_toArray, List.set_cons_zero, List.set_cons_succ, i64_w, i32_w]
        rfl
       refine pure_ (i := 1) (N := some 11) (v := ?_) (a' := ?_) #[true, true, false, false, false, false, false, false, false, false, false, false, false, false, false, false, false, false, false, false, false, false, false, false, false] rfl rfl (any_of HT_.out (by kernel_rfl)) (fun _ _ _ h => h) (Or.inl ⟨by rfl, ?_⟩) ?_ ?_
       rotate_left
       ·intro w'
        go_simp
        with_reducible rfl
       rotate_left
       ·simp only [Act.put, List.setIfInBounds_toArray, List.set_cons_zero, List.set_cons_succ, i64_w, i32_w]
        rfl
       refine pure_ (i := 2) (N := some 12) (v := ?_) (a' := ?_) #[true, true, true, false, false, false, false, false, false, false, false, false, false, false, false, false, false, false, false, false, false, false, false, false, false] rfl rfl (any_of HT_.out (by kernel_rfl)) (fun _ _ _ h => h) (Or.inl ⟨by rfl, ?_⟩) ?_ ?_
       rotate_left
       ·intro w'
        go_simp
        with_reducible rfl
       rotate_left
       ·simp only [Act.put, List.setIfInBounds_toArray, List.set_cons_zero, List.set_cons_succ, i64_w, i32_w]
        rfl
       refine take_ (i := 3) (N := some 13) (v := ?_) (a' := ?_) #[true, true, true, true, false, false, false, false, false, false, false, false, false, false, false, false, false, false, false, false, false, false, false, false, false] rfl rfl (take_ofW HT_.out HW_.out (by kernel_rfl)) (fun _ _ _ h => h) (Or.inl ⟨by rfl, ?_⟩) hHeld ?_ ?_
       rotate_left
       ·rintro w' ⟨s0, s1, s2, s3⟩
        go_simp
        with_reducible rfl
       rotate_left
       ·simp only [Act.put, List.setIfInBounds_toArray, List.set_cons_zero, List.set_cons_succ, i64_w, i32_w]
        rfl
       refine one_ (i := 4) (N := some 14) #[true, true, true, true, true, false, false, false, false, false, false, false, false, false, false, false, false, false, false, false, false, false, false, false, false] rfl rfl (one_of HT_.out (by kernel_rfl)) (by decide) (fun K hK => ?_)
       refine goes_ Tryz.func27 (by kernel_rfl) rfl #[.agg #[.string ((zqe l0 x3_1).f0), .bool ((zqe l0 x3_1).f1), .int .i64 ((zqe l0 x3_1).f2), .slice A212_3 ((zqe l0 x3_1).f3).length c212_3]] (by rfl) rfl rfl (by (try simp only [List.map_toArray, List.map_cons, List.map_nil]); first | done | rfl | (simp only [List.length_drop, List.length_take]; rfl)) ?_
       with_reducible refine (chicaneref14_Check.calls k1 ((zqe l0 x3_1).f0) ((zqe l0 x3_1).f1) ((zqe l0 x3_1).f2) _ _ ((zqe l0 x3_1).f3) t213 _ ?side1 ?side2 A4.out).mono ?_
       (case side1 => repeat (first | exact (Kd.C_below HR212_3.out HB.out) | (with_reducible refine Kd.C_alloc ?_ _) | (with_reducible refine Kd.C_drewN ?_ _) | (with_reducible refine Kd.C_drew ?_)))
       (case side2 => exact HC212_3.out)
       rintro e w16 ⟨rfl, hb⟩
       refine ⟨_, rfl, ?_⟩
       have n0_ := zqd.mk (below_step (by repeat (first | (with_reducible first | exact HB.out | apply zqj | apply zqb | apply zqf) | exact HB.out)) hb)
       clear HB
       have HB := n0_
       clear n0_
       (try clear hb)
       (try clear hb2)
       (try clear hk)
       (try clear hi)
       refine hK.out _ _ ⟨((HB.out.cell (World.block_lt_of_cell? w _ hw212_0)).trans hw212_0), ((HB.out.cell (World.block_lt_of_cell? w _ hw212_1)).trans hw212_1), ((HB.out.cell (World.block_lt_of_cell? w _ hw212_2)).trans hw212_2), ((HB.out.cell (World.block_lt_of_cell? w _ hw212_3)).trans hw212_3)⟩ (fun hHeld => ?_)
       clear hK K
       refine norm_ (a' := ?_) ?_ ?_
       rotate_left
       ·show Act.put _ (some 14) _ = _
        simp only [Act.put, List.setIfInBounds_toArray, List.set_cons_zero, List.set_cons_succ, i64_w, i32_w]
        rfl
       refine pure_ (i := 5) (N := some 15) (v := ?_) (a' := ?_) #[true, true, true, true, true, true, false, false, false, false, false, false, false, false, false, false, false, false, false, false, false, false, false, false, false] rfl rfl (any_of HT_.out (by kernel_rfl)) (fun _ _ _ h => h) (Or.inl ⟨by rfl, ?_⟩) ?_ ?_
       rotate_left
       ·intro w'
        go_simp
        with_reducible rfl
       rotate_left
       ·simp only [Act.put, List.setIfInBounds_toArray, List.set_cons_zero, List.set_cons_succ, i64_w, i32_w]
        rfl
       refine pure_ (i := 6) (N := some 16) (v := ?_) (a' := ?_) #[true, true, true, true, true, true, true, false, false, false, false, false, false, false, false, false, false, false, false, false, false, false, false, false, false] rfl rfl (any_of HT_.out (by kernel_rfl)) (fun _ _ _ h => h) (Or.inl ⟨by rfl, ?_⟩) ?_ ?_
       rotate_left
       ·intro w'
        go_simp
        with_reducible rfl
       rotate_left
       ·simp only [Act.put, List.setIfInBounds_toArray, List.set_cons_zero, List.set_cons_succ, i64_w, i32_w]
        rfl
       refine pure_ (i := 7) (N := some 17) (v := ?_) (a' := ?_) #[true, true, true, true, true, true, true, true, false, false, false, false, false, false, false, false, false, false, false, false, false, false, false, false, false] rfl rfl (any_of HT_.out (by kernel_rfl)) (fun _ _ _ h => h) (Or.inl ⟨by rfl, ?_⟩) ?_ ?_
       rotate_left
       ·intro w'
        go_simp
        with_reducible rfl
       rotate_left
       ·simp only [Act.put, List.setIfInBounds_toArray, List.set_cons_zero, List.set_cons_succ, i64_w, i32_w]
        rfl
       refine pure_ (i := 8) (N := some 18) (v := ?_) (a' := ?_) #[true, true, true, true, true, true, true, true, true, false, false, false, false, false, false, false, false, false, false, false, false, false, false, false, false] rfl rfl (any_of HT_.out (by kernel_rfl)) (fun _ _ _ h => h) (Or.inl ⟨by rfl, ?_⟩) ?_ ?_
       rotate_left
       ·intro w'
        go_simp
        with_reducible rfl
       rotate_left
       ·simp only [Act.put, List.setIfInBounds_toArray, List.set_cons_zero, List.set_cons_succ, i64_w, i32_w]
        rfl
       refine pure_ (i := 9) (N := some 19) (v := ?_) (a' := ?_) #[true, true, true, true, true, true, true, true, true, true, false, false, false, false, false, false, false, false, false, false, false, false, false, false, false] rfl rfl (any_of HT_.out (by kernel_rfl)) (fun _ _ _ h => h) (Or.inl ⟨by rfl, ?_⟩) ?_ ?_
       rotate_left
       ·intro w'
        go_simp
        with_reducible rfl
       rotate_left
       ·simp only [Act.put, List.setIfInBounds_toArray, List.set_cons_zero, List.set_cons_succ, i64_w, i32_w]
        rfl
       refine pure_ (i := 10) (N := some 20) (v := undef) (a' := ?_) #[true, true, true, true, true, true, true, true, true, true, true, false, false, false, false, false, false, false, false, false, false, false, false, false, false] rfl rfl (any_of HT_.out (by kernel_rfl)) (fun _ _ _ h => h) (Or.inr ⟨by rfl, rfl⟩) ?_ ?_
       rotate_left
       ·simp only [Act.put, List.setIfInBounds_toArray, List.set_cons_zero, List.set_cons_succ, i64_w, i32_w]
        rfl
       refine pure_ (i := 11) (N := some 21) (v := undef) (a' := ?_) #[true, true, true, true, true, true, true, true, true, true, true, true, false, false, false, false, false, false, false, false, false, false, false, false, false] rfl rfl (any_of HT_.out (by kernel_rfl)) (fun _ _ _ h => h) (Or.inr ⟨by rfl, rfl⟩) ?_ ?_
       rotate_left
       ·simp only [Act.put, List.setIfInBounds_toArray, List.set_cons_zero, List.set_cons_succ, i64_w, i32_w]
        rfl
       refine pure_ (i := 12) (N := some 22) (v := undef) (a' := ?_) #[true, true, true, true, true, true, true, true, true, true, true, true, true, false, false, false, false, false, false, false, false, false, false, false, false] rfl rfl (any_of HT_.out (by kernel_rfl)) (fun _ _ _ h => h) (Or.inr ⟨by rfl, rfl⟩) ?_ ?_
       rotate_left
       ·simp only [Act.put, List.setIfInBounds_toArray, List.set_cons_zero, List.set_cons_succ, i64_w, i32_w]
        rfl
       refine pure_ (i := 13) (N := some 23) (v := undef) (a' := ?_) #[true, true, true, true, true, true, true, true, true, true, true, true, true, true, false, false, false, false, false, false, false, false, false, false, false] rfl rfl (any_of HT_.out (by kernel_rfl)) (fun _ _ _ h => h) (Or.inr ⟨by rfl, rfl⟩) ?_ ?_
       rotate_left
       ·simp only [Act.put, List.setIfInBounds_toArray, List.set_cons_zero, List.set_cons_succ, i64_w, i32_w]
        rfl
       refine pure_ (i := 14) (N := some 24) (v := undef) (a' := ?_) #[true, true, true, true, true, true, true, true, true, true, true, true, true, true, true, false, false, false, false, false, false, false, false, false, false] rfl rfl (any_of HT_.out (by kernel_rfl)) (fun _ _ _ h => h) (Or.inr ⟨by rfl, rfl⟩) ?_ ?_
       rotate_left
       ·simp only [Act.put, List.setIfInBounds_toArray, List.set_cons_zero, List.set_cons_succ, i64_w, i32_w]
        rfl
       refine pure_ (i := 15) (N := some 25) (v := undef) (a' := ?_) #[true, true, true, true, true, true, true, true, true, true, true, true, true, true, true, true, false, false, false, false, false, false, false, false, false] rfl rfl (any_of HT_.out (by kernel_rfl)) (fun _ _ _ h => h) (Or.inr ⟨by rfl, rfl⟩) ?_ ?_
       rotate_left
       ·simp only [Act.put, List.setIfInBounds_toArray, List.set_cons_zero, List.set_cons_succ, i64_w, i32_w]
        rfl
       refine pure_ (i := 16) (N := some 26) (v := undef) (a' := ?_) #[true, true, true, true, true, true, true, true, true, true, true, true, true, true, true, true, true, false, false, false, false, false, false, false, false] rfl rfl (any_of HT_.out (by kernel_rfl)) (fun _ _ _ h => h) (Or.inr ⟨by rfl, rfl⟩) ?_ ?_
       rotate_left
       ·simp only [Act.put, List.setIfInBounds_toArray, List.set_cons_zero, List.set_cons_succ, i64_w, i32_w]
        rfl
       refine pure_ (i := 17) (N := some 27) (v := undef) (a' := ?_) #[true, true, true, true, true, true, true, true, true, true, true, true, true, true, true, true, true, true, false, false, false, false, false, false, false] rfl rfl (any_of HT_.out (by kernel_rfl)) (fun _ _ _ h => h) (Or.inr ⟨by rfl, rfl⟩) ?_ ?_
       rotate_left
       ·simp only [Act.put, List.setIfInBounds_toArray, List.set_cons_zero, List.set_cons_succ, i64_w, i32_w]
        rfl
       refine pure_ (i := 18) (N := some 28) (v := undef) (a' := ?_) #[true, true, true, true, true, true, true, true, true, true, true, true, true, true, true, true, true, true, true, false, false, false, false, false, false] rfl rfl (any_of HT_.out (by kernel_rfl)) (fun _ _ _ h => h) (Or.inr ⟨by rfl, rfl⟩) ?_ ?_
       rotate_left
       ·simp only [Act.put, List.setIfInBounds_toArray, List.set_cons_zero, List.set_cons_succ, i64_w, i32_w]
        rfl
       refine pure_ (i := 19) (N := some 29) (v := undef) (a' := ?_) #[true, true, true, true, true, true, true, true, true, true, true, true, true, true, true, true, true, true, true, true, false, false, false, false, false] rfl rfl (any_of HT_.out (by kernel_rfl)) (fun _ _ _ h => h) (Or.inr ⟨by rfl, rfl⟩) ?_ ?_
       rotate_left
       ·simp only [Act.put, List.setIfInBounds_toArray, List.set_cons_zero, List.set_cons_succ, i64_w, i32_w]
        rfl
       refine pure_ (i := 20) (N := some 30) (v := undef) (a' := ?_) #[true, true, true, true, true, true, true, true, true, true, true, true, true, true, true, true, true, true, true, true, true, false, false, false, false] rfl rfl (any_of HT_.out (by kernel_rfl)) (fun _ _ _ h => h) (Or.inr ⟨by rfl, rfl⟩) ?_ ?_
       rotate_left
       ·simp only [Act.put, List.setIfInBounds_toArray, List.set_cons_zero, List.set_cons_succ, i64_w, i32_w]
        rfl
       refine pure_ (i := 21) (N := some 31) (v := undef) (a' := ?_) #[true, true, true, true, true, true, true, true, true, true, true, true, true, true, true, true, true, true, true, true, true, true, false, false, false] rfl rfl (any_of HT_.out (by kernel_rfl)) (fun _ _ _ h => h) (Or.inr ⟨by rfl, rfl⟩) ?_ ?_
       rotate_left
       ·simp only [Act.put, List.setIfInBounds_toArray, List.set_cons_zero, List.set_cons_succ, i64_w, i32_w]
        rfl
       refine pure_ (i := 22) (N := some 32) (v := undef) (a' := ?_) #[true, true, true, true, true, true, true, true, true, true, true, true, true, true, true, true, true, true, true, true, true, true, true, false, false] rfl rfl (any_of HT_.out (by kernel_rfl)) (fun _ _ _ h => h) (Or.inr ⟨by rfl, rfl⟩) ?_ ?_
       rotate_left
       ·simp only [Act.put, List.setIfInBounds_toArray, List.set_cons_zero, List.set_cons_succ, i64_w, i32_w]
        rfl
       refine pure_ (i := 23) (N := some 33) (v := ?_) (a' := ?_) #[true, true, true, true, true, true, true, true, true, true, true, true, true, true, true, true, true, true, true, true, true, true, true, true, false] rfl rfl (any_of HT_.out (by kernel_rfl)) (fun _ _ _ h => h) (Or.inl ⟨by rfl, ?_⟩) ?_ ?_
       rotate_left
       ·intro w'
        go_simp
        with_reducible rfl
       rotate_left
       ·simp only [Act.put, List.setIfInBounds_toArray, List.set_cons_zero, List.set_cons_succ, i64_w, i32_w]
        rfl
       refine pure_ (i := 24) (N := some 34) (v := ?_) (a' := ?_) #[true, true, true, true, true, true, true, true, true, true, true, true, true, true, true, true, true, true, true, true, true, true, true, true, true] rfl rfl (any_of HT_.out (by kernel_rfl)) (fun _ _ _ h => h) (Or.inl ⟨by rfl, ?_⟩) ?_ ?_
       rotate_left
       ·intro w'
        go_simp
        with_reducible rfl
       rotate_left
       ·simp only [Act.put, List.setIfInBounds_toArray, List.set_cons_zero, List.set_cons_succ, i64_w, i32_w]
        rfl
       refine done_ (done_of HT_.out (by kernel_rfl)) ?_
       try go_wp2
       go_roundg k1
       case measure => have := HK1.out; omega
       case rel => exact ⟨(wrap64 (x3_1 + 1)), (by first | rfl | (simp; done) | (simp [*]; done)), H', ⟨by have := HK1.out; omega⟩, ⟨by repeat (first | (with_reducible first | exact HB.out | apply zqj | apply zqb | apply zqf) | exact HB.out)⟩⟩
     ·rw [if_neg c5] at H
      have c5b0 : (t213 == 0) = false := beq_eq_false_iff_ne.mpr c5
      have c5b1 : (t213 != 0) = true := bne_iff_ne.mpr c5
      obtain rfl := Option.some.inj H
      try go_wp2
      have n0_ := zqd.mk (zqf HB.out)
      clear HB
      have HB := n0_
      clear n0_
      have p212 : 0 ≤ (x3_1 : Int) := of_decide_eq_true (by first | (with_reducible assumption) | assumption)
      have q212 : x3_1 < (l0.length : Int) := of_decide_eq_true (by first | (with_reducible assumption) | assumption)
      obtain ⟨ad212, A212_3, c212_3, e212, hx212_0, hx212_1, hx212_2, hx212_3, hl212_3, hi212_3⟩ := at_T39 HR0.out x3_1 p212 q212
      have hw212_3 := hx212_3
      have hw212_2 := hx212_2
      have hw212_1 := hx212_1
      have hw212_0 := hx212_0
      cases e212
      replace hx212_0 := (HB.out.cell (World.block_lt_of_cell? w _ hx212_0)).trans hx212_0
      replace hx212_1 := (HB.out.cell (World.block_lt_of_cell? w _ hx212_1)).trans hx212_1
      replace hx212_2 := (HB.out.cell (World.block_lt_of_cell? w _ hx212_2)).trans hx212_2
      replace hx212_3 := (HB.out.cell (World.block_lt_of_cell? w _ hx212_3)).trans hx212_3
      have HR212_3 := zqd.mk hi212_3
      have HC212_3 := zqd.mk hl212_3
      clear hi212_3 hl212_3
      replace p212 := eq_true p212
      replace q212 := eq_true q212
      refine start_ (n := 25) (S := fun w' => w'.cell? (ad212.add ((x3_1).toNat * 4)) = some (.string ((zqe l0 x3_1).f0)) ∧ w'.cell? ⟨(ad212.add ((x3_1).toNat * 4)).block, (ad212.add ((x3_1).toNat * 4)).off + 1, none⟩ = some (.bool ((zqe l0 x3_1).f1)) ∧ w'.cell? ⟨(ad212.add ((x3_1).toNat * 4)).block, (ad212.add ((x3_1).toNat * 4)).off + 2, none⟩ = some (.int .i64 ((zqe l0 x3_1).f2)) ∧ w'.cell? ⟨(ad212.add ((x3_1).toNat * 4)).block, (ad212.add ((x3_1).toNat * 4)).off + 3, none⟩ = some (.slice A212_3 ((zqe l0 x3_1).f3).length c212_3)) (ds := []) #[false, false, false, false, false, false, false, false, false, false, false, false, false, false, false, false, false, false, false, false, false, false, false, false, false] (by kernel_rfl) rfl rfl ⟨((HB.out.cell (World.block_lt_of_cell? w _ hw212_0)).trans hw212_0), ((HB.out.cell (World.block_lt_of_cell? w _ hw212_1)).trans hw212_1), ((HB.out.cell (World.block_lt_of_cell? w _ hw212_2)).trans hw212_2), ((HB.out.cell (World.block_lt_of_cell? w _ hw212_3)).trans hw212_3)⟩ (fun hHeld => ?_); refine with_tabW chicaneref14_Right.tab4 chicaneref14_Right.bits4 (fun HT_ HW_ => ?_)
      generalize wr.drew = w17 at HB HR212_3 hx212_0 hx212_1 hx212_2 hx212_3 hHeld ⊢
      refine pure_ (i := 0) (N := some 10) (v := ?_) (a' := ?_) #[true, false, false, false, false, false, false, false, false, false, false, false, false, false, false, false, false, false, false, false, false, false, false, false, false] rfl rfl (any_of HT_.out (by kernel_rfl)) (fun _ _ _ h => h) (Or.inl ⟨by rfl, ?_⟩) ?_ ?_
      rotate_left
      ·intro w'
       go_simp
       with_reducible rfl
      rotate_left
      ·simp only [Act.put, List.setIfInBounds_toArray, List.set_cons_zero, List.set_cons_succ, i64_w, i32_w]
       rfl
      refine pure_ (i := 1) (N := some 11) (v := ?_) (a' := ?_) #[true, true, false, false, false, false, false, false, false, false, false, false, false, false, false, false, false, false, false, false, false, false, false, false, false] rfl rfl (any_of HT_.out (by kernel_rfl)) (fun _ _ _ h => h) (Or.inl ⟨by rfl, ?_⟩) ?_ ?_
      rotate_left
      ·intro w'
       go_simp
       with_reducible rfl
      rotate_left
      ·simp only [Act.put, List.setIfInBounds_toArray, List.set_cons_zero, List.set_cons_succ, i64_w, i32_w]
       rfl
      refine pure_ (i := 2) (N := some 12) (v := ?_) (a' := ?_) #[true, true, true, false, false, false, false, false, false, false, false, false, false, false, false, false, false, false, false, false, false, false, false, false, false] rfl rfl (any_of HT_.out (by kernel_rfl)) (fun _ _ _ h => h) (Or.inl ⟨by rfl, ?_⟩) ?_ ?_
      rotate_left
      ·intro w'
       go_simp
       with_reducible rfl
      rotate_left
      ·simp only [Act.put, List.setIfInBounds_toArray, List.set_cons_zero, List.set_cons_succ, i64_w, i32_w]
       rfl
      refine take_ (i := 3) (N := some 13) (v := ?_) (a' := ?_) #[true, true, true, true, false, false, false, false, false, false, false, false, false, false, false, false, false, false, false, false, false, false, false, false, false] rfl rfl (take_ofW HT_.out HW_.out (by kernel_rfl)) (fun _ _ _ h => h) (Or.inl ⟨by rfl, ?_⟩) hHeld ?_ ?_
      rotate_left
      ·rintro w' ⟨s0, s1, s2, s3⟩
       go_simp
       with_reducible rfl
      rotate_left
      ·simp only [Act.put, List.setIfInBounds_toArray, List.set_cons_zero, List.set_cons_succ, i64_w, i32_w]
       rfl
      refine one_ (i := 4) (N := some 14) #[true, true, true, true, true, false, false, false, false, false, false, false, false, false, false, false, false, false, false, false, false, false, false, false, false] rfl rfl (one_of HT_.out (by kernel_rfl)) (by decide) (fun K hK => ?_)
      refine goes_ Tryz.func27 (by kernel_rfl) rfl #[.agg #[.string ((zqe l0 x3_1).f0), .bool ((zqe l0 x3_1).f1), .int .i64 ((zqe l0 x3_1).f2), .slice A212_3 ((zqe l0 x3_1).f3).length c212_3]] (by rfl) rfl rfl (by (try simp only [List.map_toArray, List.map_cons, List.map_nil]); first | done | rfl | (simp only [List.length_drop, List.length_take]; rfl)) ?_
      with_reducible refine (chicaneref14_Check.calls k1 ((zqe l0 x3_1).f0) ((zqe l0 x3_1).f1) ((zqe l0 x3_1).f2) _ _ ((zqe l0 x3_1).f3) t213 _ ?side1 ?side2 A4.out).mono ?_
      (case side1 => repeat (first | exact (Kd.C_below HR212_3.out HB.out) | (with_reducible refine Kd.C_alloc ?_ _) | (with_reducible refine Kd.C_drewN ?_ _) | (with_reducible refine Kd.C_drew ?_)))
      (case side2 => exact HC212_3.out)
      rintro e w18 ⟨rfl, hb⟩
      refine ⟨_, rfl, ?_⟩
      have n0_ := zqd.mk (below_step (by repeat (first | (with_reducible first | exact HB.out | apply zqj | apply zqb | apply zqf) | exact HB.out)) hb)
      clear HB
      have HB := n0_
      clear n0_
      (try clear hb)
      (try clear hb2)
      (try clear hk)
      (try clear hi)
      refine hK.out _ _ ⟨((HB.out.cell (World.block_lt_of_cell? w _ hw212_0)).trans hw212_0), ((HB.out.cell (World.block_lt_of_cell? w _ hw212_1)).trans hw212_1), ((HB.out.cell (World.block_lt_of_cell? w _ hw212_2)).trans hw212_2), ((HB.out.cell (World.block_lt_of_cell? w _ hw212_3)).trans hw212_3)⟩ (fun hHeld => ?_)
      clear hK K
      refine norm_ (a' := ?_) ?_ ?_
      rotate_left
      ·show Act.put _ (some 14) _ = _
       simp only [Act.put, List.setIfInBounds_toArray, List.set_cons_zero, List.set_cons_succ, i64_w, i32_w]
       rfl
      refine pure_ (i := 5) (N := some 15) (v := ?_) (a' := ?_) #[true, true, true, true, true, true, false, false, false, false, false, false, false, false, false, false, false, false, false, false, false, false, false, false, false] rfl rfl (any_of HT_.out (by kernel_rfl)) (fun _ _ _ h => h) (Or.inl ⟨by rfl, ?_⟩) ?_ ?_
      rotate_left
      ·intro w'
       go_simp
       with_reducible rfl
      rotate_left
      ·simp only [Act.put, List.setIfInBounds_toArray, List.set_cons_zero, List.set_cons_succ, i64_w, i32_w]
       rfl
      refine pure_ (i := 6) (N := some 16) (v := ?_) (a' := ?_) #[true, true, true, true, true, true, true, false, false, false, false, false, false, false, false, false, false, false, false, false, false, false, false, false, false] rfl rfl (any_of HT_.out (by kernel_rfl)) (fun _ _ _ h => h) (Or.inl ⟨by rfl, ?_⟩) ?_ ?_
      rotate_left
      ·intro w'
       go_simp
       with_reducible rfl
      rotate_left
      ·simp only [Act.put, List.setIfInBounds_toArray, List.set_cons_zero, List.set_cons_succ, i64_w, i32_w]
       rfl
      refine pure_ (i := 7) (N := some 17) (v := undef) (a' := ?_) #[true, true, true, true, true, true, true, true, false, false, false, false, false, false, false, false, false, false, false, false, false, false, false, false, false] rfl rfl (any_of HT_.out (by kernel_rfl)) (fun _ _ _ h => h) (Or.inr ⟨by rfl, rfl⟩) ?_ ?_
      rotate_left
      ·simp only [Act.put, List.setIfInBounds_toArray, List.set_cons_zero, List.set_cons_succ, i64_w, i32_w]
       rfl
      refine pure_ (i := 8) (N := some 18) (v := undef) (a' := ?_) #[true, true, true, true, true, true, true, true, true, false, false, false, false, false, false, false, false, false, false, false, false, false, false, false, false] rfl rfl (any_of HT_.out (by kernel_rfl)) (fun _ _ _ h => h) (Or.inr ⟨by rfl, rfl⟩) ?_ ?_
      rotate_left
      ·simp only [Act.put, List.setIfInBounds_toArray, List.set_cons_zero, List.set_cons_succ, i64_w, i32_w]
       rfl
      refine pure_ (i := 9) (N := some 19) (v := undef) (a' := ?_) #[true, true, true, true, true, true, true, true, true, true, false, false, false, false, false, false, false, false, false, false, false, false, false, false, false] rfl rfl (any_of HT_.out (by kernel_rfl)) (fun _ _ _ h => h) (Or.inr ⟨by rfl, rfl⟩) ?_ ?_
      rotate_left
      ·simp only [Act.put, List.setIfInBounds_toArray, List.set_cons_zero, List.set_cons_succ, i64_w, i32_w]
       rfl
      refine pure_ (i := 10) (N := some 20) (v := undef) (a' := ?_) #[true, true, true, true, true, true, true, true, true, true, true, false, false, false, false, false, false, false, false, false, false, false, false, false, false] rfl rfl (any_of HT_.out (by kernel_rfl)) (fun _ _ _ h => h) (Or.inr ⟨by rfl, rfl⟩) ?_ ?_
      rotate_left
      ·simp only [Act.put, List.setIfInBounds_toArray, List.set_cons_zero, List.set_cons_succ, i64_w, i32_w]
       rfl
      refine pure_ (i := 11) (N := some 21) (v := undef) (a' := ?_) #[true, true, true, true, true, true, true, true, true, true, true, true, false, false, false, false, false, false, false, false, false, false, false, false, false] rfl rfl (any_of HT_.out (by kernel_rfl)) (fun _ _ _ h => h) (Or.inr ⟨by rfl, rfl⟩) ?_ ?_
      rotate_left
      ·simp only [Act.put, List.setIfInBounds_toArray, List.set_cons_zero, List.set_cons_succ, i64_w, i32_w]
       rfl
      refine pure_ (i := 12) (N := some 22) (v := undef) (a' := ?_) #[true, true, true, true, true, true, true, true, true, true, true, true, true, false, false, false, false, false, false, false, false, false, false, false, false] rfl rfl (any_of HT_.out (by kernel_rfl)) (fun _ _ _ h => h) (Or.inr ⟨by rfl, rfl⟩) ?_ ?_
      rotate_left
      ·simp only [Act.put, List.setIfInBounds_toArray, List.set_cons_zero, List.set_cons_succ, i64_w, i32_w]
       rfl
      refine pure_ (i := 13) (N := some 23) (v := undef) (a' := ?_) #[true, true, true, true, true, true, true, true, true, true, true, true, true, true, false, false, false, false, false, false, false, false, false, false, false] rfl rfl (any_of HT_.out (by kernel_rfl)) (fun _ _ _ h => h) (Or.inr ⟨by rfl, rfl⟩) ?_ ?_
      rotate_left
      ·simp only [Act.put, List.setIfInBounds_toArray, List.set_cons_zero, List.set_cons_succ, i64_w, i32_w]
       rfl
      refine pure_ (i := 14) (N := some 24) (v := undef) (a' := ?_) #[true, true, true, true, true, true, true, true, true, true, true, true, true, true, true, false, false, false, false, false, false, false, false, false, false] rfl rfl (any_of HT_.out (by kernel_rfl)) (fun _ _ _ h => h) (Or.inr ⟨by rfl, rfl⟩) ?_ ?_
      rotate_left
      ·simp only [Act.put, List.setIfInBounds_toArray, List.set_cons_zero, List.set_cons_succ, i64_w, i32_w]
       rfl
      refine pure_ (i := 15) (N := some 25) (v := undef) (a' := ?_) #[true, true, true, true, true, true, true, true, true, true, true, true, true, true, true, true, false, false, false, false, false, false, false, false, false] rfl rfl (any_of HT_.out (by kernel_rfl)) (fun _ _ _ h => h) (Or.inr ⟨by rfl, rfl⟩) ?_ ?_
      rotate_left
      ·simp only [Act.put, List.setIfInBounds_toArray, List.set_cons_zero, List.set_cons_succ, i64_w, i32_w]
       rfl
      refine pure_ (i := 16) (N := some 26) (v := undef) (a' := ?_) #[true, true, true, true, true, true, true, true, true, true, true, true, true, true, true, true, true, false, false, false, false, false, false, false, false] rfl rfl (any_of HT_.out (by kernel_rfl)) (fun _ _ _ h => h) (Or.inr ⟨by rfl, rfl⟩) ?_ ?_
      rotate_left
      ·simp only [Act.put, List.setIfInBounds_toArray, List.set_cons_zero, List.set_cons_succ, i64_w, i32_w]
       rfl
      refine pure_ (i := 17) (N := some 27) (v := undef) (a' := ?_) #[true, true, true, true, true, true, true, true, true, true, true, true, true, true, true, true, true, true, false, false, false, false, false, false, false] rfl rfl (any_of HT_.out (by kernel_rfl)) (fun _ _ _ h => h) (Or.inr ⟨by rfl, rfl⟩) ?_ ?_
      rotate_left
      ·simp only [Act.put, List.setIfInBounds_toArray, List.set_cons_zero, List.set_cons_succ, i64_w, i32_w]
       rfl
      refine pure_ (i := 18) (N := some 28) (v := undef) (a' := ?_) #[true, true, true, true, true, true, true, true, true, true, true, true, true, true, true, true, true, true, true, false, false, false, false, false, false] rfl rfl (any_of HT_.out (by kernel_rfl)) (fun _ _ _ h => h) (Or.inr ⟨by rfl, rfl⟩) ?_ ?_
      rotate_left
      ·simp only [Act.put, List.setIfInBounds_toArray, List.set_cons_zero, List.set_cons_succ, i64_w, i32_w]
       rfl
      refine pure_ (i := 19) (N := some 29) (v := undef) (a' := ?_) #[true, true, true, true, true, true, true, true, true, true, true, true, true, true, true, true, true, true, true, true, false, false, false, false, false] rfl rfl (any_of HT_.out (by kernel_rfl)) (fun _ _ _ h => h) (Or.inr ⟨by rfl, rfl⟩) ?_ ?_
      rotate_left
      ·simp only [Act.put, List.setIfInBounds_toArray, List.set_cons_zero, List.set_cons_succ, i64_w, i32_w]
       rfl
      refine pure_ (i := 20) (N := some 30) (v := undef) (a' := ?_) #[true, true, true, true, true, true, true, true, true, true, true, true, true, true, true, true, true, true, true, true, true, false, false, false, false] rfl rfl (any_of HT_.out (by kernel_rfl)) (fun _ _ _ h => h) (Or.inr ⟨by rfl, rfl⟩) ?_ ?_
      rotate_left
      ·simp only [Act.put, List.setIfInBounds_toArray, List.set_cons_zero, List.set_cons_succ, i64_w, i32_w]
       rfl
      refine pure_ (i := 21) (N := some 31) (v := undef) (a' := ?_) #[true, true, true, true, true, true, true, true, true, true, true, true, true, true, true, true, true, true, true, true, true, true, false, false, false] rfl rfl (any_of HT_.out (by kernel_rfl)) (fun _ _ _ h => h) (Or.inr ⟨by rfl, rfl⟩) ?_ ?_
      rotate_left
      ·simp only [Act.put, List.setIfInBounds_toArray, List.set_cons_zero, List.set_cons_succ, i64_w, i32_w]
       rfl
      refine pure_ (i := 22) (N := some 32) (v := undef) (a' := ?_) #[true, true, true, true, true, true, true, true, true, true, true, true, true, true, true, true, true, true, true, true, true, true, true, false, false] rfl rfl (any_of HT_.out (by kernel_rfl)) (fun _ _ _ h => h) (Or.inr ⟨by rfl, rfl⟩) ?_ ?_
      rotate_left
      ·simp only [Act.put, List.setIfInBounds_toArray, List.set_cons_zero, List.set_cons_succ, i64_w, i32_w]
       rfl
      refine pure_ (i := 23) (N := some 33) (v := undef) (a' := ?_) #[true, true, true, true, true, true, true, true, true, true, true, true, true, true, true, true, true, true, true, true, true, true, true, true, false] rfl rfl (any_of HT_.out (by kernel_rfl)) (fun _ _ _ h => h) (Or.inr ⟨by rfl, rfl⟩) ?_ ?_
      rotate_left
      ·simp only [Act.put, List.setIfInBounds_toArray, List.set_cons_zero, List.set_cons_succ, i64_w, i32_w]
       rfl
      refine pure_ (i := 24) (N := some 34) (v := ?_) (a' := ?_) #[true, true, true, true, true, true, true, true, true, true, true, true, true, true, true, true, true, true, true, true, true, true, true, true, true] rfl rfl (any_of HT_.out (by kernel_rfl)) (fun _ _ _ h => h) (Or.inl ⟨by rfl, ?_⟩) ?_ ?_
      rotate_left
      ·intro w'
       go_simp
       with_reducible rfl
      rotate_left
      ·simp only [Act.put, List.setIfInBounds_toArray, List.set_cons_zero, List.set_cons_succ, i64_w, i32_w]
       rfl
      refine done_ (done_of HT_.out (by kernel_rfl)) ?_
      try go_wp2
      go_ret
      exact ⟨by first | rfl | (simp [errW_none, errW_some] <;> rfl) | (simp [*, errW_none, errW_some] <;> rfl), by repeat (first | (with_reducible first | exact HB.out | apply zqj | apply zqb | apply zqf) | exact HB.out)⟩
    ·rw [if_neg c3] at H
     exact absurd H (by simp)
   ·rw [if_neg c2] at H
    have c2b0 : decide (x3_1 < (l0.length : Int)) = false := decide_eq_false c2
    clear c2
    obtain rfl := Option.some.inj H
    go_wp2
    go_ret
    exact ⟨by first | rfl | (simp [errW_none, errW_some] <;> rfl) | (simp [*, errW_none, errW_some] <;> rfl), by repeat (first | (with_reducible first | exact HB.out | apply zqj | apply zqb | apply zqf) | exact HB.out)⟩
end Go.Proofs.YtlglbpjccpdloaaGreat.PNamA
namespace Go.Proofs.YtlglbpjccpdloaaGreat.PNamA
open Go.Proofs.YtlglbpjccpdloaaGreat.Ext Go.Proofs.YtlglbpjccpdloaaGreat.ToxZ Go.RowKit Go.Proofs.YtlglbpjccpdloaaGreatW.PrintWords Go.Proofs.YtlglbpjccpdloaaGreatW.PrintLast Go.Proofs.YtlglbpjccpdloaaGreatW.PrintMore
attribute [local go_sem] max2_int min2_int max_two min_two max_three min_three max_four min_four   -- for this text's walks alone
set_option linter.unusedVariables false
set_option linter.unusedSimpArgs false
private theorem pw_size_mk (l : Array UInt8) : (⟨l⟩ : ByteArray).size = l.size := rfl
attribute [local go_sem high] eqA24
mutual
def chicaneref14_Same.l0 : Nat → List (S39) → List (S39) → Int → Option (Bool)
 | 0, _, _, _ => none
 | k + 1, x0, x1, x5 => if x5 < (x0.length : Int) then (if 0 ≤ x5 then (if x5 < (x1.length : Int) then (if ((zqe x0 x5).f0).toList = ((zqe x1 x5).f0).toList then (if (((zqe x0 x5).f1) != ((zqe x1 x5).f1)) = true then (chicaneref14_Same.j1 k x0 x1 x5 true ((zqe x0 x5).f0) ((zqe x0 x5).f1) ((zqe x0 x5).f2) ((zqe x0 x5).f3) ((zqe x1 x5).f0) ((zqe x1 x5).f1) ((zqe x1 x5).f2) ((zqe x1 x5).f3)) else (if ((zqe x0 x5).f2) = ((zqe x1 x5).f2) then (chicaneref14_Same.j1 k x0 x1 x5 ((((zqe x0 x5).f3).length : Int) != (((zqe x1 x5).f3).length : Int)) ((zqe x0 x5).f0) ((zqe x0 x5).f1) ((zqe x0 x5).f2) ((zqe x0 x5).f3) ((zqe x1 x5).f0) ((zqe x1 x5).f1) ((zqe x1 x5).f2) ((zqe x1 x5).f3)) else (chicaneref14_Same.j1 k x0 x1 x5 true ((zqe x0 x5).f0) ((zqe x0 x5).f1) ((zqe x0 x5).f2) ((zqe x0 x5).f3) ((zqe x1 x5).f0) ((zqe x1 x5).f1) ((zqe x1 x5).f2) ((zqe x1 x5).f3)))) else (chicaneref14_Same.j1 k x0 x1 x5 true ((zqe x0 x5).f0) ((zqe x0 x5).f1) ((zqe x0 x5).f2) ((zqe x0 x5).f3) ((zqe x1 x5).f0) ((zqe x1 x5).f1) ((zqe x1 x5).f2) ((zqe x1 x5).f3))) else (none)) else (none)) else (some true)
def chicaneref14_Same.j1 : Nat → List (S39) → List (S39) → Int → Bool → ByteArray → Bool → Int → List (S24) → ByteArray → Bool → Int → List (S24) → Option (Bool)
 | 0, _, _, _, _, _, _, _, _, _, _, _, _ => none
 | k + 1, x0, x1, x5, x55, x324000, x324001, x324002, x324003, x326000, x326001, x326002, x326003 => if x55 = true then (some false) else (chicaneref14_Same.l1 k x0 x1 x5 0 x324000 x324001 x324002 x324003 x326000 x326001 x326002 x326003)
def chicaneref14_Same.l1 : Nat → List (S39) → List (S39) → Int → Int → ByteArray → Bool → Int → List (S24) → ByteArray → Bool → Int → List (S24) → Option (Bool)
 | 0, _, _, _, _, _, _, _, _, _, _, _, _ => none
 | k + 1, x0, x1, x5, x8, x324000, x324001, x324002, x324003, x326000, x326001, x326002, x326003 => if x8 < (x324003.length : Int) then (if 0 ≤ x8 then (if x8 < (x326003.length : Int) then (if (!((((rd_T24 x324003 x8).f0).toList) == (((rd_T24 x326003 x8).f0).toList)) || (!(((rd_T24 x324003 x8).f1) == ((rd_T24 x326003 x8).f1)) || (!(((rd_T24 x324003 x8).f2) == ((rd_T24 x326003 x8).f2)) || (!(((rd_T24 x324003 x8).f3) == ((rd_T24 x326003 x8).f3)) || (!(((rd_T24 x324003 x8).f4) == ((rd_T24 x326003 x8).f4)) || (!(((rd_T24 x324003 x8).f5) == ((rd_T24 x326003 x8).f5)))))))) = true then (some false) else (chicaneref14_Same.l1 k x0 x1 x5 (wrap64 (x8 + 1)) x324000 x324001 x324002 x324003 x326000 x326001 x326002 x326003)) else (none)) else (none)) else (chicaneref14_Same.l0 k x0 x1 (wrap64 (x5 + 1)))
end
def chicaneref14_Same.f (k : Nat) (l0 : List (S39)) (l1 : List (S39)) : Option (Bool) := if (l0.length : Int) = (l1.length : Int) then (chicaneref14_Same.l0 k l0 l1 0) else (some false)
theorem chicaneref14_Same.mono_l : ∀ k, (∀ y0 y1 y2, LeO (chicaneref14_Same.l0 k y0 y1 y2) (chicaneref14_Same.l0 (k + 1) y0 y1 y2)) ∧ (∀ y0 y1 y2 y3 y4 y5 y6 y7 y8 y9 y10 y11, LeO (chicaneref14_Same.j1 k y0 y1 y2 y3 y4 y5 y6 y7 y8 y9 y10 y11) (chicaneref14_Same.j1 (k + 1) y0 y1 y2 y3 y4 y5 y6 y7 y8 y9 y10 y11)) ∧ (∀ y0 y1 y2 y3 y4 y5 y6 y7 y8 y9 y10 y11, LeO (chicaneref14_Same.l1 k y0 y1 y2 y3 y4 y5 y6 y7 y8 y9 y10 y11) (chicaneref14_Same.l1 (k + 1) y0 y1 y2 y3 y4 y5 y6 y7 y8 y9 y10 y11))
 | 0 => ⟨fun _ _ _ r h => by simp [chicaneref14_Same.l0] at h, fun _ _ _ _ _ _ _ _ _ _ _ _ r h => by simp [chicaneref14_Same.j1] at h, fun _ _ _ _ _ _ _ _ _ _ _ _ r h => by simp [chicaneref14_Same.l1] at h⟩
 | k + 1 => by
  obtain ⟨ih0, ih1, ih2⟩ := chicaneref14_Same.mono_l k
  refine ⟨?_, ?_, ?_⟩
  ·intro y0 y1 y2
   unfold chicaneref14_Same.l0
   repeat' first
   | (with_reducible exact ih0 _ _ _)
   | (with_reducible exact ih1 _ _ _ _ _ _ _ _ _ _ _ _)
   | (with_reducible exact ih2 _ _ _ _ _ _ _ _ _ _ _ _)
   | (with_reducible exact LeO.refl _)
   | (with_reducible exact LeO.none _)
   | (with_reducible refine LeO.ite ?_ ?_)
   | (with_reducible refine LeO.bind ?_ (fun _ => ?_))
   | exact ih0 _ _ _
   | exact ih1 _ _ _ _ _ _ _ _ _ _ _ _
   | exact ih2 _ _ _ _ _ _ _ _ _ _ _ _
   | exact LeO.none _
   | refine LeO.ite ?_ ?_
   | refine LeO.bind ?_ (fun _ => ?_)
  ·intro y0 y1 y2 y3 y4 y5 y6 y7 y8 y9 y10 y11
   unfold chicaneref14_Same.j1
   repeat' first
   | (with_reducible exact ih0 _ _ _)
   | (with_reducible exact ih1 _ _ _ _ _ _ _ _ _ _ _ _)
   | (with_reducible exact ih2 _ _ _ _ _ _ _ _ _ _ _ _)
   | (with_reducible exact LeO.refl _)
   | (with_reducible exact LeO.none _)
   | (with_reducible refine LeO.ite ?_ ?_)
   | (with_reducible refine LeO.bind ?_ (fun _ => ?_))
   | exact ih0 _ _ _
   | exact ih1 _ _ _ _ _ _ _ _ _ _ _ _
   | exact ih2 _ _ _ _ _ _ _ _ _ _ _ _
   | exact LeO.none _
   | refine LeO.ite ?_ ?_
   | refine LeO.bind ?_ (fun _ => ?_)
  ·intro y0 y1 y2 y3 y4 y5 y6 y7 y8 y9 y10 y11
   unfold chicaneref14_Same.l1
   repeat' first
   | (with_reducible exact ih0 _ _ _)
   | (with_reducible exact ih1 _ _ _ _ _ _ _ _ _ _ _ _)
   | (with_reducible exact ih2 _ _ _ _ _ _ _ _ _ _ _ _)
   | (with_reducible exact LeO.refl _)
   | (with_reducible exact LeO.none _)
   | (with_reducible refine LeO.ite ?_ ?_)
   | (with_reducible refine LeO.bind ?_ (fun _ => ?_))
   | exact ih0 _ _ _
   | exact ih1 _ _ _ _ _ _ _ _ _ _ _ _
   | exact ih2 _ _ _ _ _ _ _ _ _ _ _ _
   | exact LeO.none _
   | refine LeO.ite ?_ ?_
   | refine LeO.bind ?_ (fun _ => ?_)
theorem chicaneref14_Same.mono : ∀ a0 a1 k, LeO (chicaneref14_Same.f k a0 a1) (chicaneref14_Same.f (k + 1) a0 a1) := by
 intro a0 a1 k
 obtain ⟨ih0, ih1, ih2⟩ := chicaneref14_Same.mono_l k
 unfold chicaneref14_Same.f
 repeat' first
   | (with_reducible exact ih0 _ _ _)
   | (with_reducible exact ih1 _ _ _ _ _ _ _ _ _ _ _ _)
   | (with_reducible exact ih2 _ _ _ _ _ _ _ _ _ _ _ _)
   | (with_reducible exact LeO.refl _)
   | (with_reducible exact LeO.none _)
   | (with_reducible refine LeO.ite ?_ ?_)
   | (with_reducible refine LeO.bind ?_ (fun _ => ?_))
   | exact ih0 _ _ _
   | exact ih1 _ _ _ _ _ _ _ _ _ _ _ _
   | exact ih2 _ _ _ _ _ _ _ _ _ _ _ _
   | exact LeO.none _
   | refine LeO.ite ?_ ?_
   | refine LeO.bind ?_ (fun _ => ?_)
set_option maxHeartbeats 8000000 in
set_option maxRecDepth 100000 in
theorem chicaneref14_Same.calls (k : Nat) (A0 : Option Addr) (c0 : Nat) (l0 : List (S39)) (A1 : Option Addr) (c1 : Nat) (l1 : List (S39)) (r : Bool) (w : World) (hr0 : Kd.C k39 w A0 l0.length l0) (hc0 : l0.length ≤ c0) (hr1 : Kd.C k39 w A1 l1.length l1) (hc1 : l1.length ≤ c1) (h : chicaneref14_Same.f k l0 l1 = some r) :
  Calls Tryz.prog 11 #[.slice A0 l0.length c0, .slice A1 l1.length c1] w fun e w' => e = .returned (.bool r) ∧ Below w.heap.size w w' := by
 have hu39 := Tryz.underlying39
 have hu24 := Tryz.underlying24
 have HR0 := zqd.mk hr0
 have HC0 := zqd.mk hc0
 clear hr0 hc0
 have HR1 := zqd.mk hr1
 have HC1 := zqd.mk hc1
 clear hr1 hc1
 have HB := zqd.mk (Below.refl w.heap.size w)
 have H : (if (l0.length : Int) = (l1.length : Int) then (chicaneref14_Same.l0 k l0 l1 0) else (some false)) = some r := h
 clear h
 by_cases c3 : (l0.length : Int) = (l1.length : Int)
 ·rw [if_pos c3] at H
  have c3b0 : ((l0.length : Int) == (l1.length : Int)) = true := beq_iff_eq.mpr c3
  have c3b1 : ((l0.length : Int) != (l1.length : Int)) = false := bne_eq_false_iff_eq.mpr c3
  have c3b2 : (l0.length == l1.length) = true := by first | simpa using c3 | (simp at c3 ⊢; omega)
  clear c3
  have H' := zqd.mk H
  clear H
  go_enter Tryz.func11, Tryz.ntmps11
  go_wp2
  repeat (go_quiet (fail); try go_wp2)
  go_loopg [5] k (fun kq v5 w' => ∃ (x5_1 : Int), v5 = .int .i64 x5_1 ∧ zqd (chicaneref14_Same.l0 kq l0 l1 x5_1 = some r) ∧ zqd (kq ≤ k) ∧ zqd (Below w.heap.size w w'))
  case atStart => exact ⟨(0), (by first | rfl | (simp; done) | (simp [*]; done)), H', ⟨Nat.le_refl _⟩, ⟨by repeat (first | (with_reducible first | exact HB.out | apply zqj | apply zqb | apply zqf) | exact HB.out)⟩⟩
  case round =>
   clear H'
   try clear c1
   try clear p2
   try clear c3
   try clear c3b0
   try clear c3b1
   try clear c3b2
   try clear c3b3
   obtain ⟨x5_1, rfl, HA, HK1, HB⟩ := hrel
   cases gk with
   | zero => exact absurd HA.out (by simp [chicaneref14_Same.l0])
   | succ k1 =>
    have H := HA.out
    clear HA
    simp only [chicaneref14_Same.l0] at H
    by_cases c4 : x5_1 < (l0.length : Int)
    ·rw [if_pos c4] at H
     have c4b0 : decide (x5_1 < (l0.length : Int)) = true := decide_eq_true c4
     clear c4
     by_cases c5 : 0 ≤ x5_1
     ·rw [if_pos c5] at H
      have c5b0 : decide (0 ≤ x5_1) = true := decide_eq_true c5
      clear c5
      by_cases c6 : x5_1 < (l1.length : Int)
      ·rw [if_pos c6] at H
       have c6b0 : decide (x5_1 < (l1.length : Int)) = true := decide_eq_true c6
       clear c6
       have HC7 := zqd.mk H
       clear H
       have p322 : 0 ≤ (x5_1 : Int) := of_decide_eq_true (by first | (with_reducible assumption) | assumption)
       have q322 : x5_1 < (l0.length : Int) := of_decide_eq_true (by first | (with_reducible assumption) | assumption)
       obtain ⟨ad322, A322_3, c322_3, e322, hx322_0, hx322_1, hx322_2, hx322_3, hl322_3, hi322_3⟩ := at_T39 HR0.out x5_1 p322 q322
       cases e322
       replace hx322_0 := (HB.out.cell (World.block_lt_of_cell? w _ hx322_0)).trans hx322_0
       replace hx322_1 := (HB.out.cell (World.block_lt_of_cell? w _ hx322_1)).trans hx322_1
       replace hx322_2 := (HB.out.cell (World.block_lt_of_cell? w _ hx322_2)).trans hx322_2
       replace hx322_3 := (HB.out.cell (World.block_lt_of_cell? w _ hx322_3)).trans hx322_3
       have HR322_3 := zqd.mk hi322_3
       have HC322_3 := zqd.mk hl322_3
       clear hi322_3 hl322_3
       replace p322 := eq_true p322
       replace q322 := eq_true q322
       go_upto_region 8 with (first | ((with_reducible refine gate_dst (N := 6) rfl ?_); (try (refine gate_guard (by rfl) ?_; dsimp only)); refine box_event ?hg (N := 6) ?hd (cs := #[.string (⟨#[]⟩ : ByteArray), .bool false, .int .i64 0, .slice none 0 0]) (t := 39) ?hr ?_; (case hd => rfl); (case hg => rfl); (case hr => first | (go_simp; done) | (go_simp; rfl)); intro gb323 hg w8 hbox hb; have n0_ := zqd.mk (below_step (by repeat (first | (with_reducible first | exact HB.out | apply zqj | apply zqb | apply zqf) | exact HB.out)) hb); have n1_ := zqd.mk (hbox); have n2_ := zqd.mk ((by rw [hg]; exact (below_size (by repeat (first | (with_reducible first | exact HB.out | apply zqj | apply zqb | apply zqf) | exact HB.out))) : w.heap.size ≤ gb323)); have n3_ := zqd.mk ((by rw [hg]; exact (below_size (by repeat (first | (with_reducible first | exact HB.out | apply zqj | apply zqb | apply zqf) | exact HB.out))) : w.heap.size ≤ gb323)); clear HB; have HB := n0_; have BK323 := n1_; have GW323 := n2_; have GE323 := n3_; clear n0_ n1_ n2_ n3_; clear hb hbox hg; have hcz9_0 : w8.cell? ⟨gb323, 0, none⟩ = some (.string (⟨#[]⟩ : ByteArray)) := (zqc BK323.out 0).trans rfl; have hcz9_1 : w8.cell? ⟨gb323, 1, none⟩ = some (.bool false) := (zqc BK323.out 1).trans rfl; have hcz9_2 : w8.cell? ⟨gb323, 2, none⟩ = some (.int .i64 0) := (zqc BK323.out 2).trans rfl; have hcz9_3 : w8.cell? ⟨gb323, 3, none⟩ = some (.slice none 0 0) := (zqc BK323.out 3).trans rfl; have hfz9_0 := zqa BK323.out 0; have hfz9_1 := zqa BK323.out 1; have hfz9_2 := zqa BK323.out 2; have hfz9_3 := zqa BK323.out 3; have p324 : 0 ≤ (x5_1 : Int) := of_decide_eq_true (by first | (with_reducible assumption) | assumption); have q324 : x5_1 < (l1.length : Int) := of_decide_eq_true (by first | (with_reducible assumption) | assumption); obtain ⟨ad324, A324_3, c324_3, e324, hx324_0, hx324_1, hx324_2, hx324_3, hl324_3, hi324_3⟩ := at_T39 HR1.out x5_1 p324 q324; cases e324; have hn324_0 : ad324.block ≠ gb323 := Nat.ne_of_lt (Nat.lt_of_lt_of_le (by have := World.block_lt_of_cell? _ _ hx324_0; first | rwa [add_block] at this | exact this) GW323.out); have hn324_1 : ad324.block ≠ gb323 := Nat.ne_of_lt (Nat.lt_of_lt_of_le (by have := World.block_lt_of_cell? _ _ hx324_0; first | rwa [add_block] at this | exact this) GW323.out); have hn324_2 : ad324.block ≠ gb323 := Nat.ne_of_lt (Nat.lt_of_lt_of_le (by have := World.block_lt_of_cell? _ _ hx324_0; first | rwa [add_block] at this | exact this) GW323.out); have hn324_3 : ad324.block ≠ gb323 := Nat.ne_of_lt (Nat.lt_of_lt_of_le (by have := World.block_lt_of_cell? _ _ hx324_0; first | rwa [add_block] at this | exact this) GW323.out); replace hx324_0 := (HB.out.cell (World.block_lt_of_cell? w _ hx324_0)).trans hx324_0; replace hx324_1 := (HB.out.cell (World.block_lt_of_cell? w _ hx324_1)).trans hx324_1; replace hx324_2 := (HB.out.cell (World.block_lt_of_cell? w _ hx324_2)).trans hx324_2; replace hx324_3 := (HB.out.cell (World.block_lt_of_cell? w _ hx324_3)).trans hx324_3; have HR324_3 := zqd.mk hi324_3; have HC324_3 := zqd.mk hl324_3; clear hi324_3 hl324_3; replace hx324_0 := (cell_far (p := ⟨gb323, 0, none⟩) (by first | (rw [add_block]; exact hn324_0) | (show (Addr.add _ _).block ≠ _; rw [add_block]; exact hn324_0) | exact hn324_0) (.string ((zqe l0 x5_1).f0))).trans hx324_0; replace hx324_1 := (cell_far (p := ⟨gb323, 0, none⟩) (by first | (rw [add_block]; exact hn324_0) | (show (Addr.add _ _).block ≠ _; rw [add_block]; exact hn324_0) | exact hn324_0) (.string ((zqe l0 x5_1).f0))).trans hx324_1; replace hx324_2 := (cell_far (p := ⟨gb323, 0, none⟩) (by first | (rw [add_block]; exact hn324_0) | (show (Addr.add _ _).block ≠ _; rw [add_block]; exact hn324_0) | exact hn324_0) (.string ((zqe l0 x5_1).f0))).trans hx324_2; replace hx324_3 := (cell_far (p := ⟨gb323, 0, none⟩) (by first | (rw [add_block]; exact hn324_0) | (show (Addr.add _ _).block ≠ _; rw [add_block]; exact hn324_0) | exact hn324_0) (.string ((zqe l0 x5_1).f0))).trans hx324_3; replace hx324_0 := (cell_far (p := ⟨gb323, 1, none⟩) (by first | (rw [add_block]; exact hn324_1) | (show (Addr.add _ _).block ≠ _; rw [add_block]; exact hn324_1) | exact hn324_1) (.bool ((zqe l0 x5_1).f1))).trans hx324_0; replace hx324_1 := (cell_far (p := ⟨gb323, 1, none⟩) (by first | (rw [add_block]; exact hn324_1) | (show (Addr.add _ _).block ≠ _; rw [add_block]; exact hn324_1) | exact hn324_1) (.bool ((zqe l0 x5_1).f1))).trans hx324_1; replace hx324_2 := (cell_far (p := ⟨gb323, 1, none⟩) (by first | (rw [add_block]; exact hn324_1) | (show (Addr.add _ _).block ≠ _; rw [add_block]; exact hn324_1) | exact hn324_1) (.bool ((zqe l0 x5_1).f1))).trans hx324_2; replace hx324_3 := (cell_far (p := ⟨gb323, 1, none⟩) (by first | (rw [add_block]; exact hn324_1) | (show (Addr.add _ _).block ≠ _; rw [add_block]; exact hn324_1) | exact hn324_1) (.bool ((zqe l0 x5_1).f1))).trans hx324_3; replace hx324_0 := (cell_far (p := ⟨gb323, 2, none⟩) (by first | (rw [add_block]; exact hn324_2) | (show (Addr.add _ _).block ≠ _; rw [add_block]; exact hn324_2) | exact hn324_2) (.int .i64 ((zqe l0 x5_1).f2))).trans hx324_0; replace hx324_1 := (cell_far (p := ⟨gb323, 2, none⟩) (by first | (rw [add_block]; exact hn324_2) | (show (Addr.add _ _).block ≠ _; rw [add_block]; exact hn324_2) | exact hn324_2) (.int .i64 ((zqe l0 x5_1).f2))).trans hx324_1; replace hx324_2 := (cell_far (p := ⟨gb323, 2, none⟩) (by first | (rw [add_block]; exact hn324_2) | (show (Addr.add _ _).block ≠ _; rw [add_block]; exact hn324_2) | exact hn324_2) (.int .i64 ((zqe l0 x5_1).f2))).trans hx324_2; replace hx324_3 := (cell_far (p := ⟨gb323, 2, none⟩) (by first | (rw [add_block]; exact hn324_2) | (show (Addr.add _ _).block ≠ _; rw [add_block]; exact hn324_2) | exact hn324_2) (.int .i64 ((zqe l0 x5_1).f2))).trans hx324_3; replace hx324_0 := (cell_far (p := ⟨gb323, 3, none⟩) (by first | (rw [add_block]; exact hn324_3) | (show (Addr.add _ _).block ≠ _; rw [add_block]; exact hn324_3) | exact hn324_3) (.slice A322_3 ((zqe l0 x5_1).f3).length c322_3)).trans hx324_0; replace hx324_1 := (cell_far (p := ⟨gb323, 3, none⟩) (by first | (rw [add_block]; exact hn324_3) | (show (Addr.add _ _).block ≠ _; rw [add_block]; exact hn324_3) | exact hn324_3) (.slice A322_3 ((zqe l0 x5_1).f3).length c322_3)).trans hx324_1; replace hx324_2 := (cell_far (p := ⟨gb323, 3, none⟩) (by first | (rw [add_block]; exact hn324_3) | (show (Addr.add _ _).block ≠ _; rw [add_block]; exact hn324_3) | exact hn324_3) (.slice A322_3 ((zqe l0 x5_1).f3).length c322_3)).trans hx324_2; replace hx324_3 := (cell_far (p := ⟨gb323, 3, none⟩) (by first | (rw [add_block]; exact hn324_3) | (show (Addr.add _ _).block ≠ _; rw [add_block]; exact hn324_3) | exact hn324_3) (.slice A322_3 ((zqe l0 x5_1).f3).length c322_3)).trans hx324_3; (try have hy324_0 := fun (n_ : Nat) => (show ((((((w8.drewN n_).setCell ⟨gb323, 0, none⟩ (.string ((zqe l0 x5_1).f0))).setCell ⟨gb323, 1, none⟩ (.bool ((zqe l0 x5_1).f1))).setCell ⟨gb323, 2, none⟩ (.int .i64 ((zqe l0 x5_1).f2))).setCell ⟨gb323, 3, none⟩ (.slice A322_3 ((zqe l0 x5_1).f3).length c322_3))).cell? _ = some _ from hx324_0)); (try have hy324_1 := fun (n_ : Nat) => (show ((((((w8.drewN n_).setCell ⟨gb323, 0, none⟩ (.string ((zqe l0 x5_1).f0))).setCell ⟨gb323, 1, none⟩ (.bool ((zqe l0 x5_1).f1))).setCell ⟨gb323, 2, none⟩ (.int .i64 ((zqe l0 x5_1).f2))).setCell ⟨gb323, 3, none⟩ (.slice A322_3 ((zqe l0 x5_1).f3).length c322_3))).cell? _ = some _ from hx324_1)); (try have hy324_2 := fun (n_ : Nat) => (show ((((((w8.drewN n_).setCell ⟨gb323, 0, none⟩ (.string ((zqe l0 x5_1).f0))).setCell ⟨gb323, 1, none⟩ (.bool ((zqe l0 x5_1).f1))).setCell ⟨gb323, 2, none⟩ (.int .i64 ((zqe l0 x5_1).f2))).setCell ⟨gb323, 3, none⟩ (.slice A322_3 ((zqe l0 x5_1).f3).length c322_3))).cell? _ = some _ from hx324_2)); (try have hy324_3 := fun (n_ : Nat) => (show ((((((w8.drewN n_).setCell ⟨gb323, 0, none⟩ (.string ((zqe l0 x5_1).f0))).setCell ⟨gb323, 1, none⟩ (.bool ((zqe l0 x5_1).f1))).setCell ⟨gb323, 2, none⟩ (.int .i64 ((zqe l0 x5_1).f2))).setCell ⟨gb323, 3, none⟩ (.slice A322_3 ((zqe l0 x5_1).f3).length c322_3))).cell? _ = some _ from hx324_3)); clear hn324_0; clear hn324_1; clear hn324_2; clear hn324_3; replace p324 := eq_true p324; replace q324 := eq_true q324) | ((with_reducible refine gate_dst (N := 7) rfl ?_); (try (refine gate_guard (by rfl) ?_; dsimp only)); refine box_event ?hg (N := 7) ?hd (cs := #[.string (⟨#[]⟩ : ByteArray), .bool false, .int .i64 0, .slice none 0 0]) (t := 39) ?hr ?_; (case hd => rfl); (case hg => rfl); (case hr => first | (go_simp; done) | (go_simp; rfl)); intro gb325 hg w10 hbox hb; have n0_ := zqd.mk (blk_below (g := gb323) (o := .cells #[.string ((zqe l0 x5_1).f0), .bool ((zqe l0 x5_1).f1), .int .i64 ((zqe l0 x5_1).f2), .slice A322_3 ((zqe l0 x5_1).f3).length c322_3] 39 (0, 0)) (by (with_reducible repeat (first | refine zqg ?_ _ | refine zqi ?_ | refine zqh ?_ _)); refine blk_put (cs := #[.string ((zqe l0 x5_1).f0), .bool ((zqe l0 x5_1).f1), .int .i64 ((zqe l0 x5_1).f2), .slice none 0 0]) ?_ 3 _ rfl; (with_reducible repeat (first | refine zqg ?_ _ | refine zqi ?_ | refine zqh ?_ _)); refine blk_put (cs := #[.string ((zqe l0 x5_1).f0), .bool ((zqe l0 x5_1).f1), .int .i64 0, .slice none 0 0]) ?_ 2 _ rfl; (with_reducible repeat (first | refine zqg ?_ _ | refine zqi ?_ | refine zqh ?_ _)); refine blk_put (cs := #[.string ((zqe l0 x5_1).f0), .bool false, .int .i64 0, .slice none 0 0]) ?_ 1 _ rfl; (with_reducible repeat (first | refine zqg ?_ _ | refine zqi ?_ | refine zqh ?_ _)); refine blk_put (cs := #[.string (⟨#[]⟩ : ByteArray), .bool false, .int .i64 0, .slice none 0 0]) ?_ 0 _ rfl; (with_reducible repeat (first | refine zqg ?_ _ | refine zqi ?_ | refine zqh ?_ _)); exact BK323.out) hb); have n1_ := zqd.mk (below_step (by repeat (first | (with_reducible first | exact HB.out | apply zqj | apply zqb | apply zqf | refine zqk ?_ GE323.out) | exact HB.out)) hb); have n2_ := zqd.mk (hbox); have n3_ := zqd.mk ((by rw [hg]; exact (below_size (by repeat (first | (with_reducible first | exact HB.out | apply zqj | apply zqb | apply zqf | refine zqk ?_ GE323.out) | exact HB.out))) : w.heap.size ≤ gb325)); have n4_ := zqd.mk ((by rw [hg]; exact (below_size (by repeat (first | (with_reducible first | exact HB.out | apply zqj | apply zqb | apply zqf | refine zqk ?_ GE323.out) | exact HB.out))) : w.heap.size ≤ gb325)); have n5_ := zqd.mk ((by rw [hg]; exact Nat.ne_of_lt (blk_lt (g := gb323) (o := .cells #[.string ((zqe l0 x5_1).f0), .bool ((zqe l0 x5_1).f1), .int .i64 ((zqe l0 x5_1).f2), .slice A322_3 ((zqe l0 x5_1).f3).length c322_3] 39 (0, 0)) (by (with_reducible repeat (first | refine zqg ?_ _ | refine zqi ?_ | refine zqh ?_ _)); refine blk_put (cs := #[.string ((zqe l0 x5_1).f0), .bool ((zqe l0 x5_1).f1), .int .i64 ((zqe l0 x5_1).f2), .slice none 0 0]) ?_ 3 _ rfl; (with_reducible repeat (first | refine zqg ?_ _ | refine zqi ?_ | refine zqh ?_ _)); refine blk_put (cs := #[.string ((zqe l0 x5_1).f0), .bool ((zqe l0 x5_1).f1), .int .i64 0, .slice none 0 0]) ?_ 2 _ rfl; (with_reducible repeat (first | refine zqg ?_ _ | refine zqi ?_ | refine zqh ?_ _)); refine blk_put (cs := #[.string ((zqe l0 x5_1).f0), .bool false, .int .i64 0, .slice none 0 0]) ?_ 1 _ rfl; (with_reducible repeat (first | refine zqg ?_ _ | refine zqi ?_ | refine zqh ?_ _)); refine blk_put (cs := #[.string (⟨#[]⟩ : ByteArray), .bool false, .int .i64 0, .slice none 0 0]) ?_ 0 _ rfl; (with_reducible repeat (first | refine zqg ?_ _ | refine zqi ?_ | refine zqh ?_ _)); exact BK323.out)) : gb323 ≠ gb325)); have n6_ := zqd.mk ((by rw [hg]; exact Nat.ne_of_gt (blk_lt (g := gb323) (o := .cells #[.string ((zqe l0 x5_1).f0), .bool ((zqe l0 x5_1).f1), .int .i64 ((zqe l0 x5_1).f2), .slice A322_3 ((zqe l0 x5_1).f3).length c322_3] 39 (0, 0)) (by (with_reducible repeat (first | refine zqg ?_ _ | refine zqi ?_ | refine zqh ?_ _)); refine blk_put (cs := #[.string ((zqe l0 x5_1).f0), .bool ((zqe l0 x5_1).f1), .int .i64 ((zqe l0 x5_1).f2), .slice none 0 0]) ?_ 3 _ rfl; (with_reducible repeat (first | refine zqg ?_ _ | refine zqi ?_ | refine zqh ?_ _)); refine blk_put (cs := #[.string ((zqe l0 x5_1).f0), .bool ((zqe l0 x5_1).f1), .int .i64 0, .slice none 0 0]) ?_ 2 _ rfl; (with_reducible repeat (first | refine zqg ?_ _ | refine zqi ?_ | refine zqh ?_ _)); refine blk_put (cs := #[.string ((zqe l0 x5_1).f0), .bool false, .int .i64 0, .slice none 0 0]) ?_ 1 _ rfl; (with_reducible repeat (first | refine zqg ?_ _ | refine zqi ?_ | refine zqh ?_ _)); refine blk_put (cs := #[.string (⟨#[]⟩ : ByteArray), .bool false, .int .i64 0, .slice none 0 0]) ?_ 0 _ rfl; (with_reducible repeat (first | refine zqg ?_ _ | refine zqi ?_ | refine zqh ?_ _)); exact BK323.out)) : gb325 ≠ gb323)); clear BK323; clear HB; have BK323 := n0_; have HB := n1_; have BK325 := n2_; have GW325 := n3_; have GE325 := n4_; have NB323_325 := n5_; have NB325_323 := n6_; clear n0_ n1_ n2_ n3_ n4_ n5_ n6_; clear hb hbox hg; have hnb11 := NB325_323.out; have hnc11 := NB323_325.out; have hcz12_0 : w10.cell? ⟨gb325, 0, none⟩ = some (.string (⟨#[]⟩ : ByteArray)) := (zqc BK325.out 0).trans rfl; have hcz12_1 : w10.cell? ⟨gb325, 1, none⟩ = some (.bool false) := (zqc BK325.out 1).trans rfl; have hcz12_2 : w10.cell? ⟨gb325, 2, none⟩ = some (.int .i64 0) := (zqc BK325.out 2).trans rfl; have hcz12_3 : w10.cell? ⟨gb325, 3, none⟩ = some (.slice none 0 0) := (zqc BK325.out 3).trans rfl; have hfz12_0 := zqa BK325.out 0; have hfz12_1 := zqa BK325.out 1; have hfz12_2 := zqa BK325.out 2; have hfz12_3 := zqa BK325.out 3))
       repeat (go_quiet (first | ((with_reducible refine gate_dst (N := 6) rfl ?_); (try (refine gate_guard (by rfl) ?_; dsimp only)); refine box_event ?hg (N := 6) ?hd (cs := #[.string (⟨#[]⟩ : ByteArray), .bool false, .int .i64 0, .slice none 0 0]) (t := 39) ?hr ?_; (case hd => rfl); (case hg => rfl); (case hr => first | (go_simp; done) | (go_simp; rfl)); intro gb323 hg w8 hbox hb; have n0_ := zqd.mk (below_step (by repeat (first | (with_reducible first | exact HB.out | apply zqj | apply zqb | apply zqf) | exact HB.out)) hb); have n1_ := zqd.mk (hbox); have n2_ := zqd.mk ((by rw [hg]; exact (below_size (by repeat (first | (with_reducible first | exact HB.out | apply zqj | apply zqb | apply zqf) | exact HB.out))) : w.heap.size ≤ gb323)); have n3_ := zqd.mk ((by rw [hg]; exact (below_size (by repeat (first | (with_reducible first | exact HB.out | apply zqj | apply zqb | apply zqf) | exact HB.out))) : w.heap.size ≤ gb323)); clear HB; have HB := n0_; have BK323 := n1_; have GW323 := n2_; have GE323 := n3_; clear n0_ n1_ n2_ n3_; clear hb hbox hg; have hcz9_0 : w8.cell? ⟨gb323, 0, none⟩ = some (.string (⟨#[]⟩ : ByteArray)) := (zqc BK323.out 0).trans rfl; have hcz9_1 : w8.cell? ⟨gb323, 1, none⟩ = some (.bool false) := (zqc BK323.out 1).trans rfl; have hcz9_2 : w8.cell? ⟨gb323, 2, none⟩ = some (.int .i64 0) := (zqc BK323.out 2).trans rfl; have hcz9_3 : w8.cell? ⟨gb323, 3, none⟩ = some (.slice none 0 0) := (zqc BK323.out 3).trans rfl; have hfz9_0 := zqa BK323.out 0; have hfz9_1 := zqa BK323.out 1; have hfz9_2 := zqa BK323.out 2; have hfz9_3 := zqa BK323.out 3; have p324 : 0 ≤ (x5_1 : Int) := of_decide_eq_true (by first | (with_reducible assumption) | assumption); have q324 : x5_1 < (l1.length : Int) := of_decide_eq_true (by first | (with_reducible assumption) | assumption); obtain ⟨ad324, A324_3, c324_3, e324, hx324_0, hx324_1, hx324_2, hx324_3, hl324_3, hi324_3⟩ := at_T39 HR1.out x5_1 p324 q324; cases e324; have hn324_0 : ad324.block ≠ gb323 := Nat.ne_of_lt (Nat.lt_of_lt_of_le (by have := World.block_lt_of_cell? _ _ hx324_0; first | rwa [add_block] at this | exact this) GW323.out); have hn324_1 : ad324.block ≠ gb323 := Nat.ne_of_lt (Nat.lt_of_lt_of_le (by have := World.block_lt_of_cell? _ _ hx324_0; first | rwa [add_block] at this | exact this) GW323.out); have hn324_2 : ad324.block ≠ gb323 := Nat.ne_of_lt (Nat.lt_of_lt_of_le (by have := World.block_lt_of_cell? _ _ hx324_0; first | rwa [add_block] at this | exact this) GW323.out); have hn324_3 : ad324.block ≠ gb323 := Nat.ne_of_lt (Nat.lt_of_lt_of_le (by have := World.block_lt_of_cell? _ _ hx324_0; first | rwa [add_block] at this | exact this) GW323.out); replace hx324_0 := (HB.out.cell (World.block_lt_of_cell? w _ hx324_0)).trans hx324_0; replace hx324_1 := (HB.out.cell (World.block_lt_of_cell? w _ hx324_1)).trans hx324_1; replace hx324_2 := (HB.out.cell (World.block_lt_of_cell? w _ hx324_2)).trans hx324_2; replace hx324_3 := (HB.out.cell (World.block_lt_of_cell? w _ hx324_3)).trans hx324_3; have HR324_3 := zqd.mk hi324_3; have HC324_3 := zqd.mk hl324_3; clear hi324_3 hl324_3; replace hx324_0 := (cell_far (p := ⟨gb323, 0, none⟩) (by first | (rw [add_block]; exact hn324_0) | (show (Addr.add _ _).block ≠ _; rw [add_block]; exact hn324_0) | exact hn324_0) (.string ((zqe l0 x5_1).f0))).trans hx324_0; replace hx324_1 := (cell_far (p := ⟨gb323, 0, none⟩) (by first | (rw [add_block]; exact hn324_0) | (show (Addr.add _ _).block ≠ _; rw [add_block]; exact hn324_0) | exact hn324_0) (.string ((zqe l0 x5_1).f0))).trans hx324_1; replace hx324_2 := (cell_far (p := ⟨gb323, 0, none⟩) (by first | (rw [add_block]; exact hn324_0) | (show (Addr.add _ _).block ≠ _; rw [add_block]; exact hn324_0) | exact hn324_0) (.string ((zqe l0 x5_1).f0))).trans hx324_2; replace hx324_3 := (cell_far (p := ⟨gb323, 0, none⟩) (by first | (rw [add_block]; exact hn324_0) | (show (Addr.add _ _).block ≠ _; rw [add_block]; exact hn324_0) | exact hn324_0) (.string ((zqe l0 x5_1).f0))).trans hx324_3; replace hx324_0 := (cell_far (p := ⟨gb323, 1, none⟩) (by first | (rw [add_block]; exact hn324_1) | (show (Addr.add _ _).block ≠ _; rw [add_block]; exact hn324_1) | exact hn324_1) (.bool ((zqe l0 x5_1).f1))).trans hx324_0; replace hx324_1 := (cell_far (p := ⟨gb323, 1, none⟩) (by first | (rw [add_block]; exact hn324_1) | (show (Addr.add _ _).block ≠ _; rw [add_block]; exact hn324_1) | exact hn324_1) (.bool ((zqe l0 x5_1).f1))).trans hx324_1; replace hx324_2 := (cell_far (p := ⟨gb323, 1, none⟩) (by first | (rw [add_block]; exact hn324_1) | (show (Addr.add _ _).block ≠ _; rw [add_block]; exact hn324_1) | exact hn324_1) (.bool ((zqe l0 x5_1).f1))).trans hx324_2; replace hx324_3 := (cell_far (p := ⟨gb323, 1, none⟩) (by first | (rw [add_block]; exact hn324_1) | (show (Addr.add _ _).block ≠ _; rw [add_block]; exact hn324_1) | exact hn324_1) (.bool ((zqe l0 x5_1).f1))).trans hx324_3; replace hx324_0 := (cell_far (p := ⟨gb323, 2, none⟩) (by first | (rw [add_block]; exact hn324_2) | (show (Addr.add _ _).block ≠ _; rw [add_block]; exact hn324_2) | exact hn324_2) (.int .i64 ((zqe l0 x5_1).f2))).trans hx324_0; replace hx324_1 := (cell_far (p := ⟨gb323, 2, none⟩) (by first | (rw [add_block]; exact hn324_2) | (show (Addr.add _ _).block ≠ _; rw [add_block]; exact hn324_2) | exact hn324_2) (.int .i64 ((zqe l0 x5_1).f2))).trans hx324_1; replace hx324_2 := (cell_far (p := ⟨gb323, 2, none⟩) (by first | (rw [add_block]; exact hn324_2) | (show (Addr.add _ _).block ≠ _; rw [add_block]; exact hn324_2) | exact hn324_2) (.int .i64 ((zqe l0 x5_1).f2))).trans hx324_2; replace hx324_3 := (cell_far (p := ⟨gb323, 2, none⟩) (by first | (rw [add_block]; exact hn324_2) | (show (Addr.add _ _).block ≠ _; rw [add_block]; exact hn324_2) | exact hn324_2) (.int .i64 ((zqe l0 x5_1).f2))).trans hx324_3; replace hx324_0 := (cell_far (p := ⟨gb323, 3, none⟩) (by first | (rw [add_block]; exact hn324_3) | (show (Addr.add _ _).block ≠ _; rw [add_block]; exact hn324_3) | exact hn324_3) (.slice A322_3 ((zqe l0 x5_1).f3).length c322_3)).trans hx324_0; replace hx324_1 := (cell_far (p := ⟨gb323, 3, none⟩) (by first | (rw [add_block]; exact hn324_3) | (show (Addr.add _ _).block ≠ _; rw [add_block]; exact hn324_3) | exact hn324_3) (.slice A322_3 ((zqe l0 x5_1).f3).length c322_3)).trans hx324_1; replace hx324_2 := (cell_far (p := ⟨gb323, 3, none⟩) (by first | (rw [add_block]; exact hn324_3) | (show (Addr.add _ _).block ≠ _; rw [add_block]; exact hn324_3) | exact hn324_3) (.slice A322_3 ((zqe l0 x5_1).f3).length c322_3)).trans hx324_2; replace hx324_3 := (cell_far (p := ⟨gb323, 3, none⟩) (by first | (rw [add_block]; exact hn324_3) | (show (Addr.add _ _).block ≠ _; rw [add_block]; exact hn324_3) | exact hn324_3) (.slice A322_3 ((zqe l0 x5_1).f3).length c322_3)).trans hx324_3; (try have hy324_0 := fun (n_ : Nat) => (show ((((((w8.drewN n_).setCell ⟨gb323, 0, none⟩ (.string ((zqe l0 x5_1).f0))).setCell ⟨gb323, 1, none⟩ (.bool ((zqe l0 x5_1).f1))).setCell ⟨gb323, 2, none⟩ (.int .i64 ((zqe l0 x5_1).f2))).setCell ⟨gb323, 3, none⟩ (.slice A322_3 ((zqe l0 x5_1).f3).length c322_3))).cell? _ = some _ from hx324_0)); (try have hy324_1 := fun (n_ : Nat) => (show ((((((w8.drewN n_).setCell ⟨gb323, 0, none⟩ (.string ((zqe l0 x5_1).f0))).setCell ⟨gb323, 1, none⟩ (.bool ((zqe l0 x5_1).f1))).setCell ⟨gb323, 2, none⟩ (.int .i64 ((zqe l0 x5_1).f2))).setCell ⟨gb323, 3, none⟩ (.slice A322_3 ((zqe l0 x5_1).f3).length c322_3))).cell? _ = some _ from hx324_1)); (try have hy324_2 := fun (n_ : Nat) => (show ((((((w8.drewN n_).setCell ⟨gb323, 0, none⟩ (.string ((zqe l0 x5_1).f0))).setCell ⟨gb323, 1, none⟩ (.bool ((zqe l0 x5_1).f1))).setCell ⟨gb323, 2, none⟩ (.int .i64 ((zqe l0 x5_1).f2))).setCell ⟨gb323, 3, none⟩ (.slice A322_3 ((zqe l0 x5_1).f3).length c322_3))).cell? _ = some _ from hx324_2)); (try have hy324_3 := fun (n_ : Nat) => (show ((((((w8.drewN n_).setCell ⟨gb323, 0, none⟩ (.string ((zqe l0 x5_1).f0))).setCell ⟨gb323, 1, none⟩ (.bool ((zqe l0 x5_1).f1))).setCell ⟨gb323, 2, none⟩ (.int .i64 ((zqe l0 x5_1).f2))).setCell ⟨gb323, 3, none⟩ (.slice A322_3 ((zqe l0 x5_1).f3).length c322_3))).cell? _ = some _ from hx324_3)); clear hn324_0; clear hn324_1; clear hn324_2; clear hn324_3; replace p324 := eq_true p324; replace q324 := eq_true q324) | ((with_reducible refine gate_dst (N := 7) rfl ?_); (try (refine gate_guard (by rfl) ?_; dsimp only)); refine box_event ?hg (N := 7) ?hd (cs := #[.string (⟨#[]⟩ : ByteArray), .bool false, .int .i64 0, .slice none 0 0]) (t := 39) ?hr ?_; (case hd => rfl); (case hg => rfl); (case hr => first | (go_simp; done) | (go_simp; rfl)); intro gb325 hg w10 hbox hb; have n0_ := zqd.mk (blk_below (g := gb323) (o := .cells #[.string ((zqe l0 x5_1).f0), .bool ((zqe l0 x5_1).f1), .int .i64 ((zqe l0 x5_1).f2), .slice A322_3 ((zqe l0 x5_1).f3).length c322_3] 39 (0, 0)) (by (with_reducible repeat (first | refine zqg ?_ _ | refine zqi ?_ | refine zqh ?_ _)); refine blk_put (cs := #[.string ((zqe l0 x5_1).f0), .bool ((zqe l0 x5_1).f1), .int .i64 ((zqe l0 x5_1).f2), .slice none 0 0]) ?_ 3 _ rfl; (with_reducible repeat (first | refine zqg ?_ _ | refine zqi ?_ | refine zqh ?_ _)); refine blk_put (cs := #[.string ((zqe l0 x5_1).f0), .bool ((zqe l0 x5_1).f1), .int .i64 0, .slice none 0 0]) ?_ 2 _ rfl; (with_reducible repeat (first | refine zqg ?_ _ | refine zqi ?_ | refine zqh ?_ _)); refine blk_put (cs := #[.string ((zqe l0 x5_1).f0), .bool false, .int .i64 0, .slice none 0 0]) ?_ 1 _ rfl; (with_reducible repeat (first | refine zqg ?_ _ | refine zqi ?_ | refine zqh ?_ _)); refine blk_put (cs := #[.string (⟨#[]⟩ : ByteArray), .bool false, .int .i64 0, .slice none 0 0]) ?_ 0 _ rfl; (with_reducible repeat (first | refine zqg ?_ _ | refine zqi ?_ | refine zqh ?_ _)); exact BK323.out) hb); have n1_ := zqd.mk (below_step (by repeat (first | (with_reducible first | exact HB.out | apply zqj | apply zqb | apply zqf | refine zqk ?_ GE323.out) | exact HB.out)) hb); have n2_ := zqd.mk (hbox); have n3_ := zqd.mk ((by rw [hg]; exact (below_size (by repeat (first | (with_reducible first | exact HB.out | apply zqj | apply zqb | apply zqf | refine zqk ?_ GE323.out) | exact HB.out))) : w.heap.size ≤ gb325)); have n4_ := zqd.mk ((by rw [hg]; exact (below_size (by repeat (first | (with_reducible first | exact HB.out | apply zqj | apply zqb | apply zqf | refine zqk ?_ GE323.out) | exact HB.out))) : w.heap.size ≤ gb325)); have n5_ := zqd.mk ((by rw [hg]; exact Nat.ne_of_lt (blk_lt (g := gb323) (o := .cells #[.string ((zqe l0 x5_1).f0), .bool ((zqe l0 x5_1).f1), .int .i64 ((zqe l0 x5_1).f2), .slice A322_3 ((zqe l0 x5_1).f3).length c322_3] 39 (0, 0)) (by (with_reducible repeat (first | refine zqg ?_ _ | refine zqi ?_ | refine zqh ?_ _)); refine blk_put (cs := #[.string ((zqe l0 x5_1).f0), .bool ((zqe l0 x5_1).f1), .int .i64 ((zqe l0 x5_1).f2), .slice none 0 0]) ?_ 3 _ rfl; (with_reducible repeat (first | refine zqg ?_ _ | refine zqi ?_ | refine zqh ?_ _)); refine blk_put (cs := #[.string ((zqe l0 x5_1).f0), .bool ((zqe l0 x5_1).f1), .int .i64 0, .slice none 0 0]) ?_ 2 _ rfl; (with_reducible repeat (first | refine zqg ?_ _ | refine zqi ?_ | refine zqh ?_ _)); refine blk_put (cs := #[.string ((zqe l0 x5_1).f0), .bool false, .int .i64 0, .slice none 0 0]) ?_ 1 _ rfl; (with_reducible repeat (first | refine zqg ?_ _ | refine zqi ?_ | refine zqh ?_ _)); refine blk_put (cs := #[.string (⟨#[]⟩ : ByteArray), .bool false, .int .i64 0, .slice none 0 0]) ?_ 0 _ rfl; (with_reducible repeat (first | refine zqg ?_ _ | refine zqi ?_ | refine zqh ?_ _)); exact BK323.out)) : gb323 ≠ gb325)); have n6_ := zqd.mk ((by rw [hg]; exact Nat.ne_of_gt (blk_lt (g := gb323) (o := .cells #[.string ((zqe l0 x5_1).f0), .bool ((zqe l0 x5_1).f1), .int .i64 ((zqe l0 x5_1).f2), .slice A322_3 ((zqe l0 x5_1).f3).length c322_3] 39 (0, 0)) (by (with_reducible repeat (first | refine zqg ?_ _ | refine zqi ?_ | refine zqh ?_ _)); refine blk_put (cs := #[.string ((zqe l0 x5_1).f0), .bool ((zqe l0 x5_1).f1), .int .i64 ((zqe l0 x5_1).f2), .slice none 0 0]) ?_ 3 _ rfl; (with_reducible repeat (first | refine zqg ?_ _ | refine zqi ?_ | refine zqh ?_ _)); refine blk_put (cs := #[.string ((zqe l0 x5_1).f0), .bool ((zqe l0 x5_1).f1), .int .i64 0, .slice none 0 0]) ?_ 2 _ rfl; (with_reducible repeat (first | refine zqg ?_ _ | refine zqi ?_ | refine zqh ?_ _)); refine blk_put (cs := #[.string ((zqe l0 x5_1).f0), .bool false, .int .i64 0, .slice none 0 0]) ?_ 1 _ rfl; (with_reducible repeat (first | refine zqg ?_ _ | refine zqi ?_ | refine zqh ?_ _)); refine blk_put (cs := #[.string (⟨#[]⟩ : ByteArray), .bool false, .int .i64 0, .slice none 0 0]) ?_ 0 _ rfl; (with_reducible repeat (first | refine zqg ?_ _ | refine zqi ?_ | refine zqh ?_ _)); exact BK323.out)) : gb325 ≠ gb323)); clear BK323; clear HB; have BK323 := n0_; have HB := n1_; have BK325 := n2_; have GW325 := n3_; have GE325 := n4_; have NB323_325 := n5_; have NB325_323 := n6_; clear n0_ n1_ n2_ n3_ n4_ n5_ n6_; clear hb hbox hg; have hnb11 := NB325_323.out; have hnc11 := NB323_325.out; have hcz12_0 : w10.cell? ⟨gb325, 0, none⟩ = some (.string (⟨#[]⟩ : ByteArray)) := (zqc BK325.out 0).trans rfl; have hcz12_1 : w10.cell? ⟨gb325, 1, none⟩ = some (.bool false) := (zqc BK325.out 1).trans rfl; have hcz12_2 : w10.cell? ⟨gb325, 2, none⟩ = some (.int .i64 0) := (zqc BK325.out 2).trans rfl; have hcz12_3 : w10.cell? ⟨gb325, 3, none⟩ = some (.slice none 0 0) := (zqc BK325.out 3).trans rfl; have hfz12_0 := zqa BK325.out 0; have hfz12_1 := zqa BK325.out 1; have hfz12_2 := zqa BK325.out 2; have hfz12_3 := zqa BK325.out 3)); go_upto_region 8 with (first | ((with_reducible refine gate_dst (N := 6) rfl ?_); (try (refine gate_guard (by rfl) ?_; dsimp only)); refine box_event ?hg (N := 6) ?hd (cs := #[.string (⟨#[]⟩ : ByteArray), .bool false, .int .i64 0, .slice none 0 0]) (t := 39) ?hr ?_; (case hd => rfl); (case hg => rfl); (case hr => first | (go_simp; done) | (go_simp; rfl)); intro gb323 hg w8 hbox hb; have n0_ := zqd.mk (below_step (by repeat (first | (with_reducible first | exact HB.out | apply zqj | apply zqb | apply zqf) | exact HB.out)) hb); have n1_ := zqd.mk (hbox); have n2_ := zqd.mk ((by rw [hg]; exact (below_size (by repeat (first | (with_reducible first | exact HB.out | apply zqj | apply zqb | apply zqf) | exact HB.out))) : w.heap.size ≤ gb323)); have n3_ := zqd.mk ((by rw [hg]; exact (below_size (by repeat (first | (with_reducible first | exact HB.out | apply zqj | apply zqb | apply zqf) | exact HB.out))) : w.heap.size ≤ gb323)); clear HB; have HB := n0_; have BK323 := n1_; have GW323 := n2_; have GE323 := n3_; clear n0_ n1_ n2_ n3_; clear hb hbox hg; have hcz9_0 : w8.cell? ⟨gb323, 0, none⟩ = some (.string (⟨#[]⟩ : ByteArray)) := (zqc BK323.out 0).trans rfl; have hcz9_1 : w8.cell? ⟨gb323, 1, none⟩ = some (.bool false) := (zqc BK323.out 1).trans rfl; have hcz9_2 : w8.cell? ⟨gb323, 2, none⟩ = some (.int .i64 0) := (zqc BK323.out 2).trans rfl; have hcz9_3 : w8.cell? ⟨gb323, 3, none⟩ = some (.slice none 0 0) := (zqc BK323.out 3).trans rfl; have hfz9_0 := zqa BK323.out 0; have hfz9_1 := zqa BK323.out 1; have hfz9_2 := zqa BK323.out 2; have hfz9_3 := zqa BK323.out 3; have p324 : 0 ≤ (x5_1 : Int) := of_decide_eq_true (by first | (with_reducible assumption) | assumption); have q324 : x5_1 < (l1.length : Int) := of_decide_eq_true (by first | (with_reducible assumption) | assumption); obtain ⟨ad324, A324_3, c324_3, e324, hx324_0, hx324_1, hx324_2, hx324_3, hl324_3, hi324_3⟩ := at_T39 HR1.out x5_1 p324 q324; cases e324; have hn324_0 : ad324.block ≠ gb323 := Nat.ne_of_lt (Nat.lt_of_lt_of_le (by have := World.block_lt_of_cell? _ _ hx324_0; first | rwa [add_block] at this | exact this) GW323.out); have hn324_1 : ad324.block ≠ gb323 := Nat.ne_of_lt (Nat.lt_of_lt_of_le (by have := World.block_lt_of_cell? _ _ hx324_0; first | rwa [add_block] at this | exact this) GW323.out); have hn324_2 : ad324.block ≠ gb323 := Nat.ne_of_lt (Nat.lt_of_lt_of_le (by have := World.block_lt_of_cell? _ _ hx324_0; first | rwa [add_block] at this | exact this) GW323.out); have hn324_3 : ad324.block ≠ gb323 := Nat.ne_of_lt (Nat.lt_of_lt_of_le (by have := World.block_lt_of_cell? _ _ hx324_0; first | rwa [add_block] at this | exact this) GW323.out); replace hx324_0 := (HB.out.cell (World.block_lt_of_cell? w _ hx324_0)).trans hx324_0; replace hx324_1 := (HB.out.cell (World.block_lt_of_cell? w _ hx324_1)).trans hx324_1; replace hx324_2 := (HB.out.cell (World.block_lt_of_cell? w _ hx324_2)).trans hx324_2; replace hx324_3 := (HB.out.cell (World.block_lt_of_cell? w _ hx324_3)).trans hx324_3; have HR324_3 := zqd.mk hi324_3; have HC324_3 := zqd.mk hl324_3; clear hi324_3 hl324_3; replace hx324_0 := (cell_far (p := ⟨gb323, 0, none⟩) (by first | (rw [add_block]; exact hn324_0) | (show (Addr.add _ _).block ≠ _; rw [add_block]; exact hn324_0) | exact hn324_0) (.string ((zqe l0 x5_1).f0))).trans hx324_0; replace hx324_1 := (cell_far (p := ⟨gb323, 0, none⟩) (by first | (rw [add_block]; exact hn324_0) | (show (Addr.add _ _).block ≠ _; rw [add_block]; exact hn324_0) | exact hn324_0) (.string ((zqe l0 x5_1).f0))).trans hx324_1; replace hx324_2 := (cell_far (p := ⟨gb323, 0, none⟩) (by first | (rw [add_block]; exact hn324_0) | (show (Addr.add _ _).block ≠ _; rw [add_block]; exact hn324_0) | exact hn324_0) (.string ((zqe l0 x5_1).f0))).trans hx324_2; replace hx324_3 := (cell_far (p := ⟨gb323, 0, none⟩) (by first | (rw [add_block]; exact hn324_0) | (show (Addr.add _ _).block ≠ _; rw [add_block]; exact hn324_0) | exact hn324_0) (.string ((zqe l0 x5_1).f0))).trans hx324_3; replace hx324_0 := (cell_far (p := ⟨gb323, 1, none⟩) (by first | (rw [add_block]; exact hn324_1) | (show (Addr.add _ _).block ≠ _; rw [add_block]; exact hn324_1) | exact hn324_1) (.bool ((zqe l0 x5_1).f1))).trans hx324_0; replace hx324_1 := (cell_far (p := ⟨gb323, 1, none⟩) (by first | (rw [add_block]; exact hn324_1) | (show (Addr.add _ _).block ≠ _; rw [add_block]; exact hn324_1) | exact hn324_1) (.bool ((zqe l0 x5_1).f1))).trans hx324_1; replace hx324_2 := (cell_far (p := ⟨gb323, 1, none⟩) (by first | (rw [add_block]; exact hn324_1) | (show (Addr.add _ _).block ≠ _; rw [add_block]; exact hn324_1) | exact hn324_1) (.bool ((zqe l0 x5_1).f1))).trans hx324_2; replace hx324_3 := (cell_far (p := ⟨gb323, 1, none⟩) (by first | (rw [add_block]; exact hn324_1) | (show (Addr.add _ _).block ≠ _; rw [add_block]; exact hn324_1) | exact hn324_1) (.bool ((zqe l0 x5_1).f1))).trans hx324_3; replace hx324_0 := (cell_far (p := ⟨gb323, 2, none⟩) (by first | (rw [add_block]; exact hn324_2) | (show (Addr.add _ _).block ≠ _; rw [add_block]; exact hn324_2) | exact hn324_2) (.int .i64 ((zqe l0 x5_1).f2))).trans hx324_0; replace hx324_1 := (cell_far (p := ⟨gb323, 2, none⟩) (by first | (rw [add_block]; exact hn324_2) | (show (Addr.add _ _).block ≠ _; rw [add_block]; exact hn324_2) | exact hn324_2) (.int .i64 ((zqe l0 x5_1).f2))).trans hx324_1; replace hx324_2 := (cell_far (p := ⟨gb323, 2, none⟩) (by first | (rw [add_block]; exact hn324_2) | (show (Addr.add _ _).block ≠ _; rw [add_block]; exact hn324_2) | exact hn324_2) (.int .i64 ((zqe l0 x5_1).f2))).trans hx324_2; replace hx324_3 := (cell_far (p := ⟨gb323, 2, none⟩) (by first | (rw [add_block]; exact hn324_2) | (show (Addr.add _ _).block ≠ _; rw [add_block]; exact hn324_2) | exact hn324_2) (.int .i64 ((zqe l0 x5_1).f2))).trans hx324_3; replace hx324_0 := (cell_far (p := ⟨gb323, 3, none⟩) (by first | (rw [add_block]; exact hn324_3) | (show (Addr.add _ _).block ≠ _; rw [add_block]; exact hn324_3) | exact hn324_3) (.slice A322_3 ((zqe l0 x5_1).f3).length c322_3)).trans hx324_0; replace hx324_1 := (cell_far (p := ⟨gb323, 3, none⟩) (by first | (rw [add_block]; exact hn324_3) | (show (Addr.add _ _).block ≠ _; rw [add_block]; exact hn324_3) | exact hn324_3) (.slice A322_3 ((zqe l0 x5_1).f3).length c322_3)).trans hx324_1; replace hx324_2 := (cell_far (p := ⟨gb323, 3, none⟩) (by first | (rw [add_block]; exact hn324_3) | (show (Addr.add _ _).block ≠ _; rw [add_block]; exact hn324_3) | exact hn324_3) (.slice A322_3 ((zqe l0 x5_1).f3).length c322_3)).trans hx324_2; replace hx324_3 := (cell_far (p := ⟨gb323, 3, none⟩) (by first | (rw [add_block]; exact hn324_3) | (show (Addr.add _ _).block ≠ _; rw [add_block]; exact hn324_3) | exact hn324_3) (.slice A322_3 ((zqe l0 x5_1).f3).length c322_3)).trans hx324_3; (try have hy324_0 := fun (n_ : Nat) => (show ((((((w8.drewN n_).setCell ⟨gb323, 0, none⟩ (.string ((zqe l0 x5_1).f0))).setCell ⟨gb323, 1, none⟩ (.bool ((zqe l0 x5_1).f1))).setCell ⟨gb323, 2, none⟩ (.int .i64 ((zqe l0 x5_1).f2))).setCell ⟨gb323, 3, none⟩ (.slice A322_3 ((zqe l0 x5_1).f3).length c322_3))).cell? _ = some _ from hx324_0)); (try have hy324_1 := fun (n_ : Nat) => (show ((((((w8.drewN n_).setCell ⟨gb323, 0, none⟩ (.string ((zqe l0 x5_1).f0))).setCell ⟨gb323, 1, none⟩ (.bool ((zqe l0 x5_1).f1))).setCell ⟨gb323, 2, none⟩ (.int .i64 ((zqe l0 x5_1).f2))).setCell ⟨gb323, 3, none⟩ (.slice A322_3 ((zqe l0 x5_1).f3).length c322_3))).cell? _ = some _ from hx324_1)); (try have hy324_2 := fun (n_ : Nat) => (show ((((((w8.drewN n_).setCell ⟨gb323, 0, none⟩ (.string ((zqe l0 x5_1).f0))).setCell ⟨gb323, 1, none⟩ (.bool ((zqe l0 x5_1).f1))).setCell ⟨gb323, 2, none⟩ (.int .i64 ((zqe l0 x5_1).f2))).setCell ⟨gb323, 3, none⟩ (.slice A322_3 ((zqe l0 x5_1).f3).length c322_3))).cell? _ = some _ from hx324_2)); (try have hy324_3 := fun (n_ : Nat) => (show ((((((w8.drewN n_).setCell ⟨gb323, 0, none⟩ (.string ((zqe l0 x5_1).f0))).setCell ⟨gb323, 1, none⟩ (.bool ((zqe l0 x5_1).f1))).setCell ⟨gb323, 2, none⟩ (.int .i64 ((zqe l0 x5_1).f2))).setCell ⟨gb323, 3, none⟩ (.slice A322_3 ((zqe l0 x5_1).f3).length c322_3))).cell? _ = some _ from hx324_3)); clear hn324_0; clear hn324_1; clear hn324_2; clear hn324_3; replace p324 := eq_true p324; replace q324 := eq_true q324) | ((with_reducible refine gate_dst (N := 7) rfl ?_); (try (refine gate_guard (by rfl) ?_; dsimp only)); refine box_event ?hg (N := 7) ?hd (cs := #[.string (⟨#[]⟩ : ByteArray), .bool false, .int .i64 0, .slice none 0 0]) (t := 39) ?hr ?_; (case hd => rfl); (case hg => rfl); (case hr => first | (go_simp; done) | (go_simp; rfl)); intro gb325 hg w10 hbox hb; have n0_ := zqd.mk (blk_below (g := gb323) (o := .cells #[.string ((zqe l0 x5_1).f0), .bool ((zqe l0 x5_1).f1), .int .i64 ((zqe l0 x5_1).f2), .slice A322_3 ((zqe l0 x5_1).f3).length c322_3] 39 (0, 0)) (by (with_reducible repeat (first | refine zqg ?_ _ | refine zqi ?_ | refine zqh ?_ _)); refine blk_put (cs := #[.string ((zqe l0 x5_1).f0), .bool ((zqe l0 x5_1).f1), .int .i64 ((zqe l0 x5_1).f2), .slice none 0 0]) ?_ 3 _ rfl; (with_reducible repeat (first | refine zqg ?_ _ | refine zqi ?_ | refine zqh ?_ _)); refine blk_put (cs := #[.string ((zqe l0 x5_1).f0), .bool ((zqe l0 x5_1).f1), .int .i64 0, .slice none 0 0]) ?_ 2 _ rfl; (with_reducible repeat (first | refine zqg ?_ _ | refine zqi ?_ | refine zqh ?_ _)); refine blk_put (cs := #[.string ((zqe l0 x5_1).f0), .bool false, .int .i64 0, .slice none 0 0]) ?_ 1 _ rfl; (with_reducible repeat (first | refine zqg ?_ _ | refine zqi ?_ | refine zqh ?_ _)); refine blk_put (cs := #[.string (⟨#[]⟩ : ByteArray), .bool false, .int .i64 0, .slice none 0 0]) ?_ 0 _ rfl; (with_reducible repeat (first | refine zqg ?_ _ | refine zqi ?_ | refine zqh ?_ _)); exact BK323.out) hb); have n1_ := zqd.mk (below_step (by repeat (first | (with_reducible first | exact HB.out | apply zqj | apply zqb | apply zqf | refine zqk ?_ GE323.out) | exact HB.out)) hb); have n2_ := zqd.mk (hbox); have n3_ := zqd.mk ((by rw [hg]; exact (below_size (by repeat (first | (with_reducible first | exact HB.out | apply zqj | apply zqb | apply zqf | refine zqk ?_ GE323.out) | exact HB.out))) : w.heap.size ≤ gb325)); have n4_ := zqd.mk ((by rw [hg]; exact (below_size (by repeat (first | (with_reducible first | exact HB.out | apply zqj | apply zqb | apply zqf | refine zqk ?_ GE323.out) | exact HB.out))) : w.heap.size ≤ gb325)); have n5_ := zqd.mk ((by rw [hg]; exact Nat.ne_of_lt (blk_lt (g := gb323) (o := .cells #[.string ((zqe l0 x5_1).f0), .bool ((zqe l0 x5_1).f1), .int .i64 ((zqe l0 x5_1).f2), .slice A322_3 ((zqe l0 x5_1).f3).length c322_3] 39 (0, 0)) (by (with_reducible repeat (first | refine zqg ?_ _ | refine zqi ?_ | refine zqh ?_ _)); refine blk_put (cs := #[.string ((zqe l0 x5_1).f0), .bool ((zqe l0 x5_1).f1), .int .i64 ((zqe l0 x5_1).f2), .slice none 0 0]) ?_ 3 _ rfl; (with_reducible repeat (first | refine zqg ?_ _ | refine zqi ?_ | refine zqh ?_ _)); refine blk_put (cs := #[.string ((zqe l0 x5_1).f0), .bool ((zqe l0 x5_1).f1), .int .i64 0, .slice none 0 0]) ?_ 2 _ rfl; (with_reducible repeat (first | refine zqg ?_ _ | refine zqi ?_ | refine zqh ?_ _)); refine blk_put (cs := #[.string ((zqe l0 x5_1).f0), .bool false, .int .i64 0, .slice none 0 0]) ?_ 1 _ rfl; (with_reducible repeat (first | refine zqg ?_ _ | refine zqi ?_ | refine zqh ?_ _)); refine blk_put (cs := #[.string (⟨#[]⟩ : ByteArray), .bool false, .int .i64 0, .slice none 0 0]) ?_ 0 _ rfl; (with_reducible repeat (first | refine zqg ?_ _ | refine zqi ?_ | refine zqh ?_ _)); exact BK323.out)) : gb323 ≠ gb325)); have n6_ := zqd.mk ((by rw [hg]; exact Nat.ne_of_gt (blk_lt (g := gb323) (o := .cells #[.string ((zqe l0 x5_1).f0), .bool ((zqe l0 x5_1).f1), .int .i64 ((zqe l0 x5_1).f2), .slice A322_3 ((zqe l0 x5_1).f3).length c322_3] 39 (0, 0)) (by (with_reducible repeat (first | refine zqg ?_ _ | refine zqi ?_ | refine zqh ?_ _)); refine blk_put (cs := #[.string ((zqe l0 x5_1).f0), .bool ((zqe l0 x5_1).f1), .int .i64 ((zqe l0 x5_1).f2), .slice none 0 0]) ?_ 3 _ rfl; (with_reducible repeat (first | refine zqg ?_ _ | refine zqi ?_ | refine zqh ?_ _)); refine blk_put (cs := #[.string ((zqe l0 x5_1).f0), .bool ((zqe l0 x5_1).f1), .int .i64 0, .slice none 0 0]) ?_ 2 _ rfl; (with_reducible repeat (first | refine zqg ?_ _ | refine zqi ?_ | refine zqh ?_ _)); refine blk_put (cs := #[.string ((zqe l0 x5_1).f0), .bool false, .int .i64 0, .slice none 0 0]) ?_ 1 _ rfl; (with_reducible repeat (first | refine zqg ?_ _ | refine zqi ?_ | refine zqh ?_ _)); refine blk_put (cs := #[.string (⟨#[]⟩ : ByteArray), .bool false, .int .i64 0, .slice none 0 0]) ?_ 0 _ rfl; (with_reducible repeat (first | refine zqg ?_ _ | refine zqi ?_ | refine zqh ?_ _)); exact BK323.out)) : gb325 ≠ gb323)); clear BK323; clear HB; have BK323 := n0_; have HB := n1_; have BK325 := n2_; have GW325 := n3_; have GE325 := n4_; have NB323_325 := n5_; have NB325_323 := n6_; clear n0_ n1_ n2_ n3_ n4_ n5_ n6_; clear hb hbox hg; have hnb11 := NB325_323.out; have hnc11 := NB323_325.out; have hcz12_0 : w10.cell? ⟨gb325, 0, none⟩ = some (.string (⟨#[]⟩ : ByteArray)) := (zqc BK325.out 0).trans rfl; have hcz12_1 : w10.cell? ⟨gb325, 1, none⟩ = some (.bool false) := (zqc BK325.out 1).trans rfl; have hcz12_2 : w10.cell? ⟨gb325, 2, none⟩ = some (.int .i64 0) := (zqc BK325.out 2).trans rfl; have hcz12_3 : w10.cell? ⟨gb325, 3, none⟩ = some (.slice none 0 0) := (zqc BK325.out 3).trans rfl; have hfz12_0 := zqa BK325.out 0; have hfz12_1 := zqa BK325.out 1; have hfz12_2 := zqa BK325.out 2; have hfz12_3 := zqa BK325.out 3)))
       (try simp only [Act.put, List.setIfInBounds_toArray, List.set_cons_zero, List.set_cons_succ])
       go_cut [55] (fun v55 wc => ∃ (kq : Nat) (x55_6 : Bool), v55 = .bool x55_6 ∧ zqd (chicaneref14_Same.j1 kq l0 l1 x5_1 x55_6 ((zqe l0 x5_1).f0) ((zqe l0 x5_1).f1) ((zqe l0 x5_1).f2) ((zqe l0 x5_1).f3) ((zqe l1 x5_1).f0) ((zqe l1 x5_1).f1) ((zqe l1 x5_1).f2) ((zqe l1 x5_1).f3) = some r) ∧ zqd (kq ≤ k1) ∧ zqd (wc.heap[gb323]? = some (.cells #[.string ((zqe l0 x5_1).f0), .bool ((zqe l0 x5_1).f1), .int .i64 ((zqe l0 x5_1).f2), (.slice A322_3 ((zqe l0 x5_1).f3).length c322_3)] 39 (0, 0))) ∧ zqd (wc.heap[gb325]? = some (.cells #[.string ((zqe l1 x5_1).f0), .bool ((zqe l1 x5_1).f1), .int .i64 ((zqe l1 x5_1).f2), (.slice A324_3 ((zqe l1 x5_1).f3).length c324_3)] 39 (0, 0))) ∧ zqd (Below w.heap.size w wc))
       case first =>
        have H := HC7.out
        clear HC7
        by_cases c13 : ((zqe l0 x5_1).f0).toList = ((zqe l1 x5_1).f0).toList
        ·rw [if_pos c13] at H
         have c13b0 : (((zqe l0 x5_1).f0).toList == ((zqe l1 x5_1).f0).toList) = true := beq_iff_eq.mpr c13
         have c13b1 : (((zqe l0 x5_1).f0).toList != ((zqe l1 x5_1).f0).toList) = false := bne_eq_false_iff_eq.mpr c13
         clear c13
         (first | rw [c13b0] | (simp only [i64_w, i32_w]; rw [c13b0]) | skip)
         by_cases c14 : (((zqe l0 x5_1).f1) != ((zqe l1 x5_1).f1)) = true
         ·rw [if_pos c14] at H
          have c14b0 : (((zqe l0 x5_1).f1) != ((zqe l1 x5_1).f1)) = true := c14
          (try (have c14b1 : decide (((zqe l0 x5_1).f1) = ((zqe l1 x5_1).f1)) = false := by simpa using c14))
          (try (have c14b2 : (((zqe l0 x5_1).f1) == ((zqe l1 x5_1).f1)) = false := by simpa using c14))
          (try (have c14b3 : ¬ (((zqe l0 x5_1).f1) = ((zqe l1 x5_1).f1)) := by simpa using c14))
          clear c14
          have H' := zqd.mk H
          clear H
          have hnb15 := NB323_325.out
          have hnc15 := NB325_323.out
          have hcz16_0 : w10.cell? ⟨gb323, 0, none⟩ = some (.string ((zqe l0 x5_1).f0)) := (zqc BK323.out 0).trans rfl
          have hcz16_1 : w10.cell? ⟨gb323, 1, none⟩ = some (.bool ((zqe l0 x5_1).f1)) := (zqc BK323.out 1).trans rfl
          have hcz16_2 : w10.cell? ⟨gb323, 2, none⟩ = some (.int .i64 ((zqe l0 x5_1).f2)) := (zqc BK323.out 2).trans rfl
          have hcz16_3 : w10.cell? ⟨gb323, 3, none⟩ = some (.slice A322_3 ((zqe l0 x5_1).f3).length c322_3) := (zqc BK323.out 3).trans rfl
          have hfz16_0 := zqa BK323.out 0
          have hfz16_1 := zqa BK323.out 1
          have hfz16_2 := zqa BK323.out 2
          have hfz16_3 := zqa BK323.out 3
          have hcz17_0 : w10.cell? ⟨gb325, 0, none⟩ = some (.string (⟨#[]⟩ : ByteArray)) := (zqc BK325.out 0).trans rfl
          have hcz17_1 : w10.cell? ⟨gb325, 1, none⟩ = some (.bool false) := (zqc BK325.out 1).trans rfl
          have hcz17_2 : w10.cell? ⟨gb325, 2, none⟩ = some (.int .i64 0) := (zqc BK325.out 2).trans rfl
          have hcz17_3 : w10.cell? ⟨gb325, 3, none⟩ = some (.slice none 0 0) := (zqc BK325.out 3).trans rfl
          have hfz17_0 := zqa BK325.out 0
          have hfz17_1 := zqa BK325.out 1
          have hfz17_2 := zqa BK325.out 2
          have hfz17_3 := zqa BK325.out 3
          go_wp2
          repeat (go_quiet (fail); try go_wp2)
          go_meet
          case rel => exact ⟨_, (true), (by first | rfl | (simp; done) | (simp [*]; done)), H', ⟨by have := HK1.out; first | omega | exact Nat.le_refl _⟩, ⟨by (with_reducible repeat (first | refine zqg ?_ _ | refine zqi ?_ | refine zqh ?_ _)); refine blk_far ?_ NB323_325.out _; (with_reducible repeat (first | refine zqg ?_ _ | refine zqi ?_ | refine zqh ?_ _)); refine blk_far ?_ NB323_325.out _; (with_reducible repeat (first | refine zqg ?_ _ | refine zqi ?_ | refine zqh ?_ _)); refine blk_far ?_ NB323_325.out _; (with_reducible repeat (first | refine zqg ?_ _ | refine zqi ?_ | refine zqh ?_ _)); refine blk_far ?_ NB323_325.out _; (with_reducible repeat (first | refine zqg ?_ _ | refine zqi ?_ | refine zqh ?_ _)); exact BK323.out⟩, ⟨by (with_reducible repeat (first | refine zqg ?_ _ | refine zqi ?_ | refine zqh ?_ _)); refine blk_put (cs := #[.string ((zqe l1 x5_1).f0), .bool ((zqe l1 x5_1).f1), .int .i64 ((zqe l1 x5_1).f2), .slice none 0 0]) ?_ 3 _ rfl; (with_reducible repeat (first | refine zqg ?_ _ | refine zqi ?_ | refine zqh ?_ _)); refine blk_put (cs := #[.string ((zqe l1 x5_1).f0), .bool ((zqe l1 x5_1).f1), .int .i64 0, .slice none 0 0]) ?_ 2 _ rfl; (with_reducible repeat (first | refine zqg ?_ _ | refine zqi ?_ | refine zqh ?_ _)); refine blk_put (cs := #[.string ((zqe l1 x5_1).f0), .bool false, .int .i64 0, .slice none 0 0]) ?_ 1 _ rfl; (with_reducible repeat (first | refine zqg ?_ _ | refine zqi ?_ | refine zqh ?_ _)); refine blk_put (cs := #[.string (⟨#[]⟩ : ByteArray), .bool false, .int .i64 0, .slice none 0 0]) ?_ 0 _ rfl; (with_reducible repeat (first | refine zqg ?_ _ | refine zqi ?_ | refine zqh ?_ _)); exact BK325.out⟩, ⟨by repeat (first | (with_reducible first | exact HB.out | apply zqj | apply zqb | apply zqf | refine zqk ?_ GE323.out | refine zqk ?_ GE325.out) | exact HB.out)⟩⟩
         ·rw [if_neg c14] at H
          have c14b0 : (((zqe l0 x5_1).f1) != ((zqe l1 x5_1).f1)) = false := by simpa using c14
          (try (have c14b1 : decide (((zqe l0 x5_1).f1) = ((zqe l1 x5_1).f1)) = true := by simpa using c14))
          (try (have c14b2 : (((zqe l0 x5_1).f1) == ((zqe l1 x5_1).f1)) = true := by simpa using c14))
          clear c14
          by_cases c18 : ((zqe l0 x5_1).f2) = ((zqe l1 x5_1).f2)
          ·rw [if_pos c18] at H
           have c18b0 : (((zqe l0 x5_1).f2) == ((zqe l1 x5_1).f2)) = true := beq_iff_eq.mpr c18
           have c18b1 : (((zqe l0 x5_1).f2) != ((zqe l1 x5_1).f2)) = false := bne_eq_false_iff_eq.mpr c18
           clear c18
           have H' := zqd.mk H
           clear H
           have hnb19 := NB323_325.out
           have hnc19 := NB325_323.out
           have hcz20_0 : w10.cell? ⟨gb323, 0, none⟩ = some (.string ((zqe l0 x5_1).f0)) := (zqc BK323.out 0).trans rfl
           have hcz20_1 : w10.cell? ⟨gb323, 1, none⟩ = some (.bool ((zqe l0 x5_1).f1)) := (zqc BK323.out 1).trans rfl
           have hcz20_2 : w10.cell? ⟨gb323, 2, none⟩ = some (.int .i64 ((zqe l0 x5_1).f2)) := (zqc BK323.out 2).trans rfl
           have hcz20_3 : w10.cell? ⟨gb323, 3, none⟩ = some (.slice A322_3 ((zqe l0 x5_1).f3).length c322_3) := (zqc BK323.out 3).trans rfl
           have hfz20_0 := zqa BK323.out 0
           have hfz20_1 := zqa BK323.out 1
           have hfz20_2 := zqa BK323.out 2
           have hfz20_3 := zqa BK323.out 3
           have hcz21_0 : w10.cell? ⟨gb325, 0, none⟩ = some (.string (⟨#[]⟩ : ByteArray)) := (zqc BK325.out 0).trans rfl
           have hcz21_1 : w10.cell? ⟨gb325, 1, none⟩ = some (.bool false) := (zqc BK325.out 1).trans rfl
           have hcz21_2 : w10.cell? ⟨gb325, 2, none⟩ = some (.int .i64 0) := (zqc BK325.out 2).trans rfl
           have hcz21_3 : w10.cell? ⟨gb325, 3, none⟩ = some (.slice none 0 0) := (zqc BK325.out 3).trans rfl
           have hfz21_0 := zqa BK325.out 0
           have hfz21_1 := zqa BK325.out 1
           have hfz21_2 := zqa BK325.out 2
           have hfz21_3 := zqa BK325.out 3
           go_wp2
           repeat (go_quiet (fail); try go_wp2)
           go_meet
           case rel => exact ⟨_, (((((zqe l0 x5_1).f3).length : Int) != (((zqe l1 x5_1).f3).length : Int))), (by first | rfl | (simp; done) | (simp [*]; done)), H', ⟨by have := HK1.out; first | omega | exact Nat.le_refl _⟩, ⟨by (with_reducible repeat (first | refine zqg ?_ _ | refine zqi ?_ | refine zqh ?_ _)); refine blk_far ?_ NB323_325.out _; (with_reducible repeat (first | refine zqg ?_ _ | refine zqi ?_ | refine zqh ?_ _)); refine blk_far ?_ NB323_325.out _; (with_reducible repeat (first | refine zqg ?_ _ | refine zqi ?_ | refine zqh ?_ _)); refine blk_far ?_ NB323_325.out _; (with_reducible repeat (first | refine zqg ?_ _ | refine zqi ?_ | refine zqh ?_ _)); refine blk_far ?_ NB323_325.out _; (with_reducible repeat (first | refine zqg ?_ _ | refine zqi ?_ | refine zqh ?_ _)); exact BK323.out⟩, ⟨by (with_reducible repeat (first | refine zqg ?_ _ | refine zqi ?_ | refine zqh ?_ _)); refine blk_put (cs := #[.string ((zqe l1 x5_1).f0), .bool ((zqe l1 x5_1).f1), .int .i64 ((zqe l1 x5_1).f2), .slice none 0 0]) ?_ 3 _ rfl; (with_reducible repeat (first | refine zqg ?_ _ | refine zqi ?_ | refine zqh ?_ _)); refine blk_put (cs := #[.string ((zqe l1 x5_1).f0), .bool ((zqe l1 x5_1).f1), .int .i64 0, .slice none 0 0]) ?_ 2 _ rfl; (with_reducible repeat (first | refine zqg ?_ _ | refine zqi ?_ | refine zqh ?_ _)); refine blk_put (cs := #[.string ((zqe l1 x5_1).f0), .bool false, .int .i64 0, .slice none 0 0]) ?_ 1 _ rfl; (with_reducible repeat (first | refine zqg ?_ _ | refine zqi ?_ | refine zqh ?_ _)); refine blk_put (cs := #[.string (⟨#[]⟩ : ByteArray), .bool false, .int .i64 0, .slice none 0 0]) ?_ 0 _ rfl; (with_reducible repeat (first | refine zqg ?_ _ | refine zqi ?_ | refine zqh ?_ _)); exact BK325.out⟩, ⟨by repeat (first | (with_reducible first | exact HB.out | apply zqj | apply zqb | apply zqf | refine zqk ?_ GE323.out | refine zqk ?_ GE325.out) | exact HB.out)⟩⟩
          ·rw [if_neg c18] at H
           have c18b0 : (((zqe l0 x5_1).f2) == ((zqe l1 x5_1).f2)) = false := beq_eq_false_iff_ne.mpr c18
           have c18b1 : (((zqe l0 x5_1).f2) != ((zqe l1 x5_1).f2)) = true := bne_iff_ne.mpr c18
           have H' := zqd.mk H
           clear H
           have hnb22 := NB323_325.out
           have hnc22 := NB325_323.out
           have hcz23_0 : w10.cell? ⟨gb323, 0, none⟩ = some (.string ((zqe l0 x5_1).f0)) := (zqc BK323.out 0).trans rfl
           have hcz23_1 : w10.cell? ⟨gb323, 1, none⟩ = some (.bool ((zqe l0 x5_1).f1)) := (zqc BK323.out 1).trans rfl
           have hcz23_2 : w10.cell? ⟨gb323, 2, none⟩ = some (.int .i64 ((zqe l0 x5_1).f2)) := (zqc BK323.out 2).trans rfl
           have hcz23_3 : w10.cell? ⟨gb323, 3, none⟩ = some (.slice A322_3 ((zqe l0 x5_1).f3).length c322_3) := (zqc BK323.out 3).trans rfl
           have hfz23_0 := zqa BK323.out 0
           have hfz23_1 := zqa BK323.out 1
           have hfz23_2 := zqa BK323.out 2
           have hfz23_3 := zqa BK323.out 3
           have hcz24_0 : w10.cell? ⟨gb325, 0, none⟩ = some (.string (⟨#[]⟩ : ByteArray)) := (zqc BK325.out 0).trans rfl
           have hcz24_1 : w10.cell? ⟨gb325, 1, none⟩ = some (.bool false) := (zqc BK325.out 1).trans rfl
           have hcz24_2 : w10.cell? ⟨gb325, 2, none⟩ = some (.int .i64 0) := (zqc BK325.out 2).trans rfl
           have hcz24_3 : w10.cell? ⟨gb325, 3, none⟩ = some (.slice none 0 0) := (zqc BK325.out 3).trans rfl
           have hfz24_0 := zqa BK325.out 0
           have hfz24_1 := zqa BK325.out 1
           have hfz24_2 := zqa BK325.out 2
           have hfz24_3 := zqa BK325.out 3
           go_wp2
           repeat (go_quiet (fail); try go_wp2)
           go_meet
           case rel => exact ⟨_, (true), (by first | rfl | (simp; done) | (simp [*]; done)), H', ⟨by have := HK1.out; first | omega | exact Nat.le_refl _⟩, ⟨by (with_reducible repeat (first | refine zqg ?_ _ | refine zqi ?_ | refine zqh ?_ _)); refine blk_far ?_ NB323_325.out _; (with_reducible repeat (first | refine zqg ?_ _ | refine zqi ?_ | refine zqh ?_ _)); refine blk_far ?_ NB323_325.out _; (with_reducible repeat (first | refine zqg ?_ _ | refine zqi ?_ | refine zqh ?_ _)); refine blk_far ?_ NB323_325.out _; (with_reducible repeat (first | refine zqg ?_ _ | refine zqi ?_ | refine zqh ?_ _)); refine blk_far ?_ NB323_325.out _; (with_reducible repeat (first | refine zqg ?_ _ | refine zqi ?_ | refine zqh ?_ _)); exact BK323.out⟩, ⟨by (with_reducible repeat (first | refine zqg ?_ _ | refine zqi ?_ | refine zqh ?_ _)); refine blk_put (cs := #[.string ((zqe l1 x5_1).f0), .bool ((zqe l1 x5_1).f1), .int .i64 ((zqe l1 x5_1).f2), .slice none 0 0]) ?_ 3 _ rfl; (with_reducible repeat (first | refine zqg ?_ _ | refine zqi ?_ | refine zqh ?_ _)); refine blk_put (cs := #[.string ((zqe l1 x5_1).f0), .bool ((zqe l1 x5_1).f1), .int .i64 0, .slice none 0 0]) ?_ 2 _ rfl; (with_reducible repeat (first | refine zqg ?_ _ | refine zqi ?_ | refine zqh ?_ _)); refine blk_put (cs := #[.string ((zqe l1 x5_1).f0), .bool false, .int .i64 0, .slice none 0 0]) ?_ 1 _ rfl; (with_reducible repeat (first | refine zqg ?_ _ | refine zqi ?_ | refine zqh ?_ _)); refine blk_put (cs := #[.string (⟨#[]⟩ : ByteArray), .bool false, .int .i64 0, .slice none 0 0]) ?_ 0 _ rfl; (with_reducible repeat (first | refine zqg ?_ _ | refine zqi ?_ | refine zqh ?_ _)); exact BK325.out⟩, ⟨by repeat (first | (with_reducible first | exact HB.out | apply zqj | apply zqb | apply zqf | refine zqk ?_ GE323.out | refine zqk ?_ GE325.out) | exact HB.out)⟩⟩
        ·rw [if_neg c13] at H
         have c13b0 : (((zqe l0 x5_1).f0).toList == ((zqe l1 x5_1).f0).toList) = false := beq_eq_false_iff_ne.mpr c13
         have c13b1 : (((zqe l0 x5_1).f0).toList != ((zqe l1 x5_1).f0).toList) = true := bne_iff_ne.mpr c13
         (first | rw [c13b0] | (simp only [i64_w, i32_w]; rw [c13b0]) | skip)
         have H' := zqd.mk H
         clear H
         have hnb25 := NB323_325.out
         have hnc25 := NB325_323.out
         have hcz26_0 : w10.cell? ⟨gb323, 0, none⟩ = some (.string ((zqe l0 x5_1).f0)) := (zqc BK323.out 0).trans rfl
         have hcz26_1 : w10.cell? ⟨gb323, 1, none⟩ = some (.bool ((zqe l0 x5_1).f1)) := (zqc BK323.out 1).trans rfl
         have hcz26_2 : w10.cell? ⟨gb323, 2, none⟩ = some (.int .i64 ((zqe l0 x5_1).f2)) := (zqc BK323.out 2).trans rfl
         have hcz26_3 : w10.cell? ⟨gb323, 3, none⟩ = some (.slice A322_3 ((zqe l0 x5_1).f3).length c322_3) := (zqc BK323.out 3).trans rfl
         have hfz26_0 := zqa BK323.out 0
         have hfz26_1 := zqa BK323.out 1
         have hfz26_2 := zqa BK323.out 2
         have hfz26_3 := zqa BK323.out 3
         have hcz27_0 : w10.cell? ⟨gb325, 0, none⟩ = some (.string (⟨#[]⟩ : ByteArray)) := (zqc BK325.out 0).trans rfl
         have hcz27_1 : w10.cell? ⟨gb325, 1, none⟩ = some (.bool false) := (zqc BK325.out 1).trans rfl
         have hcz27_2 : w10.cell? ⟨gb325, 2, none⟩ = some (.int .i64 0) := (zqc BK325.out 2).trans rfl
         have hcz27_3 : w10.cell? ⟨gb325, 3, none⟩ = some (.slice none 0 0) := (zqc BK325.out 3).trans rfl
         have hfz27_0 := zqa BK325.out 0
         have hfz27_1 := zqa BK325.out 1
         have hfz27_2 := zqa BK325.out 2
         have hfz27_3 := zqa BK325.out 3
         go_wp2
         repeat (go_quiet (fail); try go_wp2)
         go_meet
         case rel => exact ⟨_, (true), (by first | rfl | (simp; done) | (simp [*]; done)), H', ⟨by have := HK1.out; first | omega | exact Nat.le_refl _⟩, ⟨by (with_reducible repeat (first | refine zqg ?_ _ | refine zqi ?_ | refine zqh ?_ _)); refine blk_far ?_ NB323_325.out _; (with_reducible repeat (first | refine zqg ?_ _ | refine zqi ?_ | refine zqh ?_ _)); refine blk_far ?_ NB323_325.out _; (with_reducible repeat (first | refine zqg ?_ _ | refine zqi ?_ | refine zqh ?_ _)); refine blk_far ?_ NB323_325.out _; (with_reducible repeat (first | refine zqg ?_ _ | refine zqi ?_ | refine zqh ?_ _)); refine blk_far ?_ NB323_325.out _; (with_reducible repeat (first | refine zqg ?_ _ | refine zqi ?_ | refine zqh ?_ _)); exact BK323.out⟩, ⟨by (with_reducible repeat (first | refine zqg ?_ _ | refine zqi ?_ | refine zqh ?_ _)); refine blk_put (cs := #[.string ((zqe l1 x5_1).f0), .bool ((zqe l1 x5_1).f1), .int .i64 ((zqe l1 x5_1).f2), .slice none 0 0]) ?_ 3 _ rfl; (with_reducible repeat (first | refine zqg ?_ _ | refine zqi ?_ | refine zqh ?_ _)); refine blk_put (cs := #[.string ((zqe l1 x5_1).f0), .bool ((zqe l1 x5_1).f1), .int .i64 0, .slice none 0 0]) ?_ 2 _ rfl; (with_reducible repeat (first | refine zqg ?_ _ | refine zqi ?_ | refine zqh ?_ _)); refine blk_put (cs := #[.string ((zqe l1 x5_1).f0), .bool false, .int .i64 0, .slice none 0 0]) ?_ 1 _ rfl; (with_reducible repeat (first | refine zqg ?_ _ | refine zqi ?_ | refine zqh ?_ _)); refine blk_put (cs := #[.string (⟨#[]⟩ : ByteArray), .bool false, .int .i64 0, .slice none 0 0]) ?_ 0 _ rfl; (with_reducible repeat (first | refine zqg ?_ _ | refine zqi ?_ | refine zqh ?_ _)); exact BK325.out⟩, ⟨by repeat (first | (with_reducible first | exact HB.out | apply zqj | apply zqb | apply zqf | refine zqk ?_ GE323.out | refine zqk ?_ GE325.out) | exact HB.out)⟩⟩
       case rest =>
        clear HC7
        try clear c1
        try clear c2
        try clear p2
        try clear c3
        try clear c3b0
        try clear c3b1
        try clear c3b2
        try clear c3b3
        try clear p3
        try clear q3
        try clear hx3
        try clear c4
        try clear c4b0
        try clear c5
        try clear c5b0
        try clear c6
        try clear c6b0
        try clear c11
        try clear c13
        try clear c13b0
        try clear c13b1
        try clear c14
        try clear c14b0
        try clear c14b1
        try clear c14b2
        try clear c14b3
        try clear c15
        try clear c18
        try clear c18b0
        try clear c18b1
        try clear c19
        try clear c22
        try clear c25
        try clear hcz12_0
        try clear hcz12_1
        try clear hcz12_2
        try clear hcz12_3
        try clear hcz16_0
        try clear hcz16_1
        try clear hcz16_2
        try clear hcz16_3
        try clear hcz17_0
        try clear hcz17_1
        try clear hcz17_2
        try clear hcz17_3
        try clear hcz20_0
        try clear hcz20_1
        try clear hcz20_2
        try clear hcz20_3
        try clear hcz21_0
        try clear hcz21_1
        try clear hcz21_2
        try clear hcz21_3
        try clear hcz23_0
        try clear hcz23_1
        try clear hcz23_2
        try clear hcz23_3
        try clear hcz24_0
        try clear hcz24_1
        try clear hcz24_2
        try clear hcz24_3
        try clear hcz26_0
        try clear hcz26_1
        try clear hcz26_2
        try clear hcz26_3
        try clear hcz27_0
        try clear hcz27_1
        try clear hcz27_2
        try clear hcz27_3
        try clear hcz9_0
        try clear hcz9_1
        try clear hcz9_2
        try clear hcz9_3
        try clear hfz12_0
        try clear hfz12_1
        try clear hfz12_2
        try clear hfz12_3
        try clear hfz16_0
        try clear hfz16_1
        try clear hfz16_2
        try clear hfz16_3
        try clear hfz17_0
        try clear hfz17_1
        try clear hfz17_2
        try clear hfz17_3
        try clear hfz20_0
        try clear hfz20_1
        try clear hfz20_2
        try clear hfz20_3
        try clear hfz21_0
        try clear hfz21_1
        try clear hfz21_2
        try clear hfz21_3
        try clear hfz23_0
        try clear hfz23_1
        try clear hfz23_2
        try clear hfz23_3
        try clear hfz24_0
        try clear hfz24_1
        try clear hfz24_2
        try clear hfz24_3
        try clear hfz26_0
        try clear hfz26_1
        try clear hfz26_2
        try clear hfz26_3
        try clear hfz27_0
        try clear hfz27_1
        try clear hfz27_2
        try clear hfz27_3
        try clear hfz9_0
        try clear hfz9_1
        try clear hfz9_2
        try clear hfz9_3
        try clear hx322_0
        try clear hx322_1
        try clear hx322_2
        try clear hx322_3
        try clear hx324_0
        try clear hx324_1
        try clear hx324_2
        try clear hx324_3
        try clear p2
        try clear p322
        try clear p324
        try clear q322
        try clear q324
        obtain ⟨kq, x55_6, rfl, HA, HJ6, BK323, BK325, HB⟩ := hcut
        cases kq with
        | zero => exact absurd HA.out (by simp [chicaneref14_Same.j1])
        | succ kj6 =>
         have H := HA.out
         clear HA
         simp only [chicaneref14_Same.j1] at H
         by_cases c28 : x55_6 = true
         ·subst c28
          have H1 : (some false) = some r := by rw [if_pos rfl] at H; exact H
          clear H
          have H := H1
          clear H1
          obtain rfl := Option.some.inj H
          go_wp2
          repeat (go_quiet (fail); try go_wp2)
          go_ret
          exact ⟨by first | rfl | (simp [errW_none, errW_some] <;> rfl) | (simp [*, errW_none, errW_some] <;> rfl), by repeat (first | (with_reducible first | exact HB.out | apply zqj | apply zqb | apply zqf | refine zqk ?_ GE323.out | refine zqk ?_ GE325.out) | exact HB.out)⟩
         ·replace c28 := Bool.eq_false_iff.mpr c28
          subst c28
          have H1 : (chicaneref14_Same.l1 kj6 l0 l1 x5_1 0 ((zqe l0 x5_1).f0) ((zqe l0 x5_1).f1) ((zqe l0 x5_1).f2) ((zqe l0 x5_1).f3) ((zqe l1 x5_1).f0) ((zqe l1 x5_1).f1) ((zqe l1 x5_1).f2) ((zqe l1 x5_1).f3)) = some r := by rw [if_neg (show ¬ (false = true) by decide)] at H; exact H
          clear H
          have H := H1
          clear H1
          have H' := zqd.mk H
          clear H
          go_wp2
          repeat (go_quiet (fail); try go_wp2)
          go_loopg [8] kj6 (fun kq v8 w' => ∃ (x8_3 : Int), v8 = .int .i64 x8_3 ∧ zqd (chicaneref14_Same.l1 kq l0 l1 x5_1 x8_3 ((zqe l0 x5_1).f0) ((zqe l0 x5_1).f1) ((zqe l0 x5_1).f2) ((zqe l0 x5_1).f3) ((zqe l1 x5_1).f0) ((zqe l1 x5_1).f1) ((zqe l1 x5_1).f2) ((zqe l1 x5_1).f3) = some r) ∧ zqd (kq ≤ kj6) ∧ zqd (w'.heap[gb323]? = some (.cells #[.string ((zqe l0 x5_1).f0), .bool ((zqe l0 x5_1).f1), .int .i64 ((zqe l0 x5_1).f2), (.slice A322_3 ((zqe l0 x5_1).f3).length c322_3)] 39 (0, 0))) ∧ zqd (w'.heap[gb325]? = some (.cells #[.string ((zqe l1 x5_1).f0), .bool ((zqe l1 x5_1).f1), .int .i64 ((zqe l1 x5_1).f2), (.slice A324_3 ((zqe l1 x5_1).f3).length c324_3)] 39 (0, 0))) ∧ zqd (Below w.heap.size w w'))
          case atStart => exact ⟨(0), (by first | rfl | (simp; done) | (simp [*]; done)), H', ⟨Nat.le_refl _⟩, ⟨by (with_reducible repeat (first | refine zqg ?_ _ | refine zqi ?_ | refine zqh ?_ _)); exact BK323.out⟩, ⟨by (with_reducible repeat (first | refine zqg ?_ _ | refine zqi ?_ | refine zqh ?_ _)); exact BK325.out⟩, ⟨by repeat (first | (with_reducible first | exact HB.out | apply zqj | apply zqb | apply zqf | refine zqk ?_ GE323.out | refine zqk ?_ GE325.out) | exact HB.out)⟩⟩
          case round =>
           clear H'
           try clear c1
           try clear c2
           try clear p2
           try clear c3
           try clear c3b0
           try clear c3b1
           try clear c3b2
           try clear c3b3
           try clear p3
           try clear q3
           try clear hx3
           try clear c4
           try clear c4b0
           try clear c5
           try clear c5b0
           try clear c6
           try clear c6b0
           try clear c11
           try clear c13
           try clear c13b0
           try clear c13b1
           try clear c14
           try clear c14b0
           try clear c14b1
           try clear c14b2
           try clear c14b3
           try clear c15
           try clear c18
           try clear c18b0
           try clear c18b1
           try clear c19
           try clear c22
           try clear c25
           try clear c28
           try clear hcz12_0
           try clear hcz12_1
           try clear hcz12_2
           try clear hcz12_3
           try clear hcz16_0
           try clear hcz16_1
           try clear hcz16_2
           try clear hcz16_3
           try clear hcz17_0
           try clear hcz17_1
           try clear hcz17_2
           try clear hcz17_3
           try clear hcz20_0
           try clear hcz20_1
           try clear hcz20_2
           try clear hcz20_3
           try clear hcz21_0
           try clear hcz21_1
           try clear hcz21_2
           try clear hcz21_3
           try clear hcz23_0
           try clear hcz23_1
           try clear hcz23_2
           try clear hcz23_3
           try clear hcz24_0
           try clear hcz24_1
           try clear hcz24_2
           try clear hcz24_3
           try clear hcz26_0
           try clear hcz26_1
           try clear hcz26_2
           try clear hcz26_3
           try clear hcz27_0
           try clear hcz27_1
           try clear hcz27_2
           try clear hcz27_3
           try clear hcz9_0
           try clear hcz9_1
           try clear hcz9_2
           try clear hcz9_3
           try clear hfz12_0
           try clear hfz12_1
           try clear hfz12_2
           try clear hfz12_3
           try clear hfz16_0
           try clear hfz16_1
           try clear hfz16_2
           try clear hfz16_3
           try clear hfz17_0
           try clear hfz17_1
           try clear hfz17_2
           try clear hfz17_3
           try clear hfz20_0
           try clear hfz20_1
           try clear hfz20_2
           try clear hfz20_3
           try clear hfz21_0
           try clear hfz21_1
           try clear hfz21_2
           try clear hfz21_3
           try clear hfz23_0
           try clear hfz23_1
           try clear hfz23_2
           try clear hfz23_3
           try clear hfz24_0
           try clear hfz24_1
           try clear hfz24_2
           try clear hfz24_3
           try clear hfz26_0
           try clear hfz26_1
           try clear hfz26_2
           try clear hfz26_3
           try clear hfz27_0
           try clear hfz27_1
           try clear hfz27_2
           try clear hfz27_3
           try clear hfz9_0
           try clear hfz9_1
           try clear hfz9_2
           try clear hfz9_3
           try clear hx322_0
           try clear hx322_1
           try clear hx322_2
           try clear hx322_3
           try clear hx324_0
           try clear hx324_1
           try clear hx324_2
           try clear hx324_3
           try clear p2
           try clear p3
           try clear p322
           try clear p324
           try clear q3
           try clear q322
           try clear q324
           obtain ⟨x8_3, rfl, HA, HK3, BK323, BK325, HB⟩ := hrel
           cases gk with
           | zero => exact absurd HA.out (by simp [chicaneref14_Same.l1])
           | succ k3 =>
            have H := HA.out
            clear HA
            simp only [chicaneref14_Same.l1] at H
            by_cases c29 : x8_3 < (((zqe l0 x5_1).f3).length : Int)
            ·rw [if_pos c29] at H
             have c29b0 : decide (x8_3 < (((zqe l0 x5_1).f3).length : Int)) = true := decide_eq_true c29
             clear c29
             by_cases c30 : 0 ≤ x8_3
             ·rw [if_pos c30] at H
              have c30b0 : decide (0 ≤ x8_3) = true := decide_eq_true c30
              clear c30
              by_cases c31 : x8_3 < (((zqe l1 x5_1).f3).length : Int)
              ·rw [if_pos c31] at H
               have c31b0 : decide (x8_3 < (((zqe l1 x5_1).f3).length : Int)) = true := decide_eq_true c31
               clear c31
               by_cases c32 : (!((((rd_T24 ((zqe l0 x5_1).f3) x8_3).f0).toList) == (((rd_T24 ((zqe l1 x5_1).f3) x8_3).f0).toList)) || (!(((rd_T24 ((zqe l0 x5_1).f3) x8_3).f1) == ((rd_T24 ((zqe l1 x5_1).f3) x8_3).f1)) || (!(((rd_T24 ((zqe l0 x5_1).f3) x8_3).f2) == ((rd_T24 ((zqe l1 x5_1).f3) x8_3).f2)) || (!(((rd_T24 ((zqe l0 x5_1).f3) x8_3).f3) == ((rd_T24 ((zqe l1 x5_1).f3) x8_3).f3)) || (!(((rd_T24 ((zqe l0 x5_1).f3) x8_3).f4) == ((rd_T24 ((zqe l1 x5_1).f3) x8_3).f4)) || (!(((rd_T24 ((zqe l0 x5_1).f3) x8_3).f5) == ((rd_T24 ((zqe l1 x5_1).f3) x8_3).f5)))))))) = true
               ·rw [if_pos c32] at H
                have c32b0 : (!((((rd_T24 ((zqe l0 x5_1).f3) x8_3).f0).toList) == (((rd_T24 ((zqe l1 x5_1).f3) x8_3).f0).toList)) || (!(((rd_T24 ((zqe l0 x5_1).f3) x8_3).f1) == ((rd_T24 ((zqe l1 x5_1).f3) x8_3).f1)) || (!(((rd_T24 ((zqe l0 x5_1).f3) x8_3).f2) == ((rd_T24 ((zqe l1 x5_1).f3) x8_3).f2)) || (!(((rd_T24 ((zqe l0 x5_1).f3) x8_3).f3) == ((rd_T24 ((zqe l1 x5_1).f3) x8_3).f3)) || (!(((rd_T24 ((zqe l0 x5_1).f3) x8_3).f4) == ((rd_T24 ((zqe l1 x5_1).f3) x8_3).f4)) || (!(((rd_T24 ((zqe l0 x5_1).f3) x8_3).f5) == ((rd_T24 ((zqe l1 x5_1).f3) x8_3).f5)))))))) = true := c32
                clear c32
                obtain rfl := Option.some.inj H
                have hnb33 := NB323_325.out
                have hnc33 := NB325_323.out
                have hcz34_0 : wr.cell? ⟨gb323, 0, none⟩ = some (.string ((zqe l0 x5_1).f0)) := (zqc BK323.out 0).trans rfl
                have hcz34_1 : wr.cell? ⟨gb323, 1, none⟩ = some (.bool ((zqe l0 x5_1).f1)) := (zqc BK323.out 1).trans rfl
                have hcz34_2 : wr.cell? ⟨gb323, 2, none⟩ = some (.int .i64 ((zqe l0 x5_1).f2)) := (zqc BK323.out 2).trans rfl
                have hcz34_3 : wr.cell? ⟨gb323, 3, none⟩ = some (.slice A322_3 ((zqe l0 x5_1).f3).length c322_3) := (zqc BK323.out 3).trans rfl
                have hfz34_0 := zqa BK323.out 0
                have hfz34_1 := zqa BK323.out 1
                have hfz34_2 := zqa BK323.out 2
                have hfz34_3 := zqa BK323.out 3
                have p326 : 0 ≤ (x8_3 : Int) := of_decide_eq_true (by first | (with_reducible assumption) | assumption)
                have q326 : x8_3 < (((zqe l0 x5_1).f3).length : Int) := of_decide_eq_true (by first | (with_reducible assumption) | assumption)
                obtain ⟨ad326, e326, hx326_0, hx326_1, hx326_2, hx326_3, hx326_4, hx326_5⟩ := at_T24 HR322_3.out x8_3 p326 q326
                cases e326
                replace hx326_0 := (HB.out.cell (World.block_lt_of_cell? w _ hx326_0)).trans hx326_0
                replace hx326_1 := (HB.out.cell (World.block_lt_of_cell? w _ hx326_1)).trans hx326_1
                replace hx326_2 := (HB.out.cell (World.block_lt_of_cell? w _ hx326_2)).trans hx326_2
                replace hx326_3 := (HB.out.cell (World.block_lt_of_cell? w _ hx326_3)).trans hx326_3
                replace hx326_4 := (HB.out.cell (World.block_lt_of_cell? w _ hx326_4)).trans hx326_4
                replace hx326_5 := (HB.out.cell (World.block_lt_of_cell? w _ hx326_5)).trans hx326_5
                replace p326 := eq_true p326
                replace q326 := eq_true q326
                have hcz35_0 : wr.cell? ⟨gb325, 0, none⟩ = some (.string ((zqe l1 x5_1).f0)) := (zqc BK325.out 0).trans rfl
                have hcz35_1 : wr.cell? ⟨gb325, 1, none⟩ = some (.bool ((zqe l1 x5_1).f1)) := (zqc BK325.out 1).trans rfl
                have hcz35_2 : wr.cell? ⟨gb325, 2, none⟩ = some (.int .i64 ((zqe l1 x5_1).f2)) := (zqc BK325.out 2).trans rfl
                have hcz35_3 : wr.cell? ⟨gb325, 3, none⟩ = some (.slice A324_3 ((zqe l1 x5_1).f3).length c324_3) := (zqc BK325.out 3).trans rfl
                have hfz35_0 := zqa BK325.out 0
                have hfz35_1 := zqa BK325.out 1
                have hfz35_2 := zqa BK325.out 2
                have hfz35_3 := zqa BK325.out 3
                have p327 : 0 ≤ (x8_3 : Int) := of_decide_eq_true (by first | (with_reducible assumption) | assumption)
                have q327 : x8_3 < (((zqe l1 x5_1).f3).length : Int) := of_decide_eq_true (by first | (with_reducible assumption) | assumption)
                obtain ⟨ad327, e327, hx327_0, hx327_1, hx327_2, hx327_3, hx327_4, hx327_5⟩ := at_T24 HR324_3.out x8_3 p327 q327
                cases e327
                replace hx327_0 := (HB.out.cell (World.block_lt_of_cell? w _ hx327_0)).trans hx327_0
                replace hx327_1 := (HB.out.cell (World.block_lt_of_cell? w _ hx327_1)).trans hx327_1
                replace hx327_2 := (HB.out.cell (World.block_lt_of_cell? w _ hx327_2)).trans hx327_2
                replace hx327_3 := (HB.out.cell (World.block_lt_of_cell? w _ hx327_3)).trans hx327_3
                replace hx327_4 := (HB.out.cell (World.block_lt_of_cell? w _ hx327_4)).trans hx327_4
                replace hx327_5 := (HB.out.cell (World.block_lt_of_cell? w _ hx327_5)).trans hx327_5
                replace p327 := eq_true p327
                replace q327 := eq_true q327
                go_wp2
                repeat (go_quiet (fail); try go_wp2)
                go_ret
                exact ⟨by first | rfl | (simp [errW_none, errW_some] <;> rfl) | (simp [*, errW_none, errW_some] <;> rfl), by repeat (first | (with_reducible first | exact HB.out | apply zqj | apply zqb | apply zqf | refine zqk ?_ GE323.out | refine zqk ?_ GE325.out) | exact HB.out)⟩
               ·rw [if_neg c32] at H
                have c32b0 : (!((((rd_T24 ((zqe l0 x5_1).f3) x8_3).f0).toList) == (((rd_T24 ((zqe l1 x5_1).f3) x8_3).f0).toList)) || (!(((rd_T24 ((zqe l0 x5_1).f3) x8_3).f1) == ((rd_T24 ((zqe l1 x5_1).f3) x8_3).f1)) || (!(((rd_T24 ((zqe l0 x5_1).f3) x8_3).f2) == ((rd_T24 ((zqe l1 x5_1).f3) x8_3).f2)) || (!(((rd_T24 ((zqe l0 x5_1).f3) x8_3).f3) == ((rd_T24 ((zqe l1 x5_1).f3) x8_3).f3)) || (!(((rd_T24 ((zqe l0 x5_1).f3) x8_3).f4) == ((rd_T24 ((zqe l1 x5_1).f3) x8_3).f4)) || (!(((rd_T24 ((zqe l0 x5_1).f3) x8_3).f5) == ((rd_T24 ((zqe l1 x5_1).f3) x8_3).f5)))))))) = false := by simpa using c32
                clear c32
                have H' := zqd.mk H
                clear H
                have hnb36 := NB323_325.out
                have hnc36 := NB325_323.out
                have hcz37_0 : wr.cell? ⟨gb323, 0, none⟩ = some (.string ((zqe l0 x5_1).f0)) := (zqc BK323.out 0).trans rfl
                have hcz37_1 : wr.cell? ⟨gb323, 1, none⟩ = some (.bool ((zqe l0 x5_1).f1)) := (zqc BK323.out 1).trans rfl
                have hcz37_2 : wr.cell? ⟨gb323, 2, none⟩ = some (.int .i64 ((zqe l0 x5_1).f2)) := (zqc BK323.out 2).trans rfl
                have hcz37_3 : wr.cell? ⟨gb323, 3, none⟩ = some (.slice A322_3 ((zqe l0 x5_1).f3).length c322_3) := (zqc BK323.out 3).trans rfl
                have hfz37_0 := zqa BK323.out 0
                have hfz37_1 := zqa BK323.out 1
                have hfz37_2 := zqa BK323.out 2
                have hfz37_3 := zqa BK323.out 3
                have p326 : 0 ≤ (x8_3 : Int) := of_decide_eq_true (by first | (with_reducible assumption) | assumption)
                have q326 : x8_3 < (((zqe l0 x5_1).f3).length : Int) := of_decide_eq_true (by first | (with_reducible assumption) | assumption)
                obtain ⟨ad326, e326, hx326_0, hx326_1, hx326_2, hx326_3, hx326_4, hx326_5⟩ := at_T24 HR322_3.out x8_3 p326 q326
                cases e326
                replace hx326_0 := (HB.out.cell (World.block_lt_of_cell? w _ hx326_0)).trans hx326_0
                replace hx326_1 := (HB.out.cell (World.block_lt_of_cell? w _ hx326_1)).trans hx326_1
                replace hx326_2 := (HB.out.cell (World.block_lt_of_cell? w _ hx326_2)).trans hx326_2
                replace hx326_3 := (HB.out.cell (World.block_lt_of_cell? w _ hx326_3)).trans hx326_3
                replace hx326_4 := (HB.out.cell (World.block_lt_of_cell? w _ hx326_4)).trans hx326_4
                replace hx326_5 := (HB.out.cell (World.block_lt_of_cell? w _ hx326_5)).trans hx326_5
                replace p326 := eq_true p326
                replace q326 := eq_true q326
                have hcz38_0 : wr.cell? ⟨gb325, 0, none⟩ = some (.string ((zqe l1 x5_1).f0)) := (zqc BK325.out 0).trans rfl
                have hcz38_1 : wr.cell? ⟨gb325, 1, none⟩ = some (.bool ((zqe l1 x5_1).f1)) := (zqc BK325.out 1).trans rfl
                have hcz38_2 : wr.cell? ⟨gb325, 2, none⟩ = some (.int .i64 ((zqe l1 x5_1).f2)) := (zqc BK325.out 2).trans rfl
                have hcz38_3 : wr.cell? ⟨gb325, 3, none⟩ = some (.slice A324_3 ((zqe l1 x5_1).f3).length c324_3) := (zqc BK325.out 3).trans rfl
                have hfz38_0 := zqa BK325.out 0
                have hfz38_1 := zqa BK325.out 1
                have hfz38_2 := zqa BK325.out 2
                have hfz38_3 := zqa BK325.out 3
                have p327 : 0 ≤ (x8_3 : Int) := of_decide_eq_true (by first | (with_reducible assumption) | assumption)
                have q327 : x8_3 < (((zqe l1 x5_1).f3).length : Int) := of_decide_eq_true (by first | (with_reducible assumption) | assumption)
                obtain ⟨ad327, e327, hx327_0, hx327_1, hx327_2, hx327_3, hx327_4, hx327_5⟩ := at_T24 HR324_3.out x8_3 p327 q327
                cases e327
                replace hx327_0 := (HB.out.cell (World.block_lt_of_cell? w _ hx327_0)).trans hx327_0
                replace hx327_1 := (HB.out.cell (World.block_lt_of_cell? w _ hx327_1)).trans hx327_1
                replace hx327_2 := (HB.out.cell (World.block_lt_of_cell? w _ hx327_2)).trans hx327_2
                replace hx327_3 := (HB.out.cell (World.block_lt_of_cell? w _ hx327_3)).trans hx327_3
                replace hx327_4 := (HB.out.cell (World.block_lt_of_cell? w _ hx327_4)).trans hx327_4
                replace hx327_5 := (HB.out.cell (World.block_lt_of_cell? w _ hx327_5)).trans hx327_5
                replace p327 := eq_true p327
                replace q327 := eq_true q327
                go_wp2
                repeat (go_quiet (fail); try go_wp2)
                go_roundg k3
                case measure => have := HK1.out; have := HJ6.out; have := HK3.out; omega
                case rel => exact ⟨(wrap64 (x8_3 + 1)), (by first | rfl | (simp; done) | (simp [*]; done)), H', ⟨by have := HK1.out; have := HJ6.out; have := HK3.out; omega⟩, ⟨by (with_reducible repeat (first | refine zqg ?_ _ | refine zqi ?_ | refine zqh ?_ _)); exact BK323.out⟩, ⟨by (with_reducible repeat (first | refine zqg ?_ _ | refine zqi ?_ | refine zqh ?_ _)); exact BK325.out⟩, ⟨by repeat (first | (with_reducible first | exact HB.out | apply zqj | apply zqb | apply zqf | refine zqk ?_ GE323.out | refine zqk ?_ GE325.out) | exact HB.out)⟩⟩
              ·rw [if_neg c31] at H
               exact absurd H (by simp)
             ·rw [if_neg c30] at H
              exact absurd H (by simp)
            ·rw [if_neg c29] at H
             have c29b0 : decide (x8_3 < (((zqe l0 x5_1).f3).length : Int)) = false := decide_eq_false c29
             clear c29
             have H' := zqd.mk H
             clear H
             have hnb39 := NB323_325.out
             have hnc39 := NB325_323.out
             have hcz40_0 : wr.cell? ⟨gb323, 0, none⟩ = some (.string ((zqe l0 x5_1).f0)) := (zqc BK323.out 0).trans rfl
             have hcz40_1 : wr.cell? ⟨gb323, 1, none⟩ = some (.bool ((zqe l0 x5_1).f1)) := (zqc BK323.out 1).trans rfl
             have hcz40_2 : wr.cell? ⟨gb323, 2, none⟩ = some (.int .i64 ((zqe l0 x5_1).f2)) := (zqc BK323.out 2).trans rfl
             have hcz40_3 : wr.cell? ⟨gb323, 3, none⟩ = some (.slice A322_3 ((zqe l0 x5_1).f3).length c322_3) := (zqc BK323.out 3).trans rfl
             have hfz40_0 := zqa BK323.out 0
             have hfz40_1 := zqa BK323.out 1
             have hfz40_2 := zqa BK323.out 2
             have hfz40_3 := zqa BK323.out 3
             go_wp2
             repeat (go_quiet (fail); try go_wp2)
             go_roundg k3
             case measure => have := HK1.out; have := HJ6.out; have := HK3.out; omega
             case rel => exact ⟨(wrap64 (x5_1 + 1)), (by first | rfl | (simp; done) | (simp [*]; done)), H', ⟨by have := HK1.out; have := HJ6.out; have := HK3.out; omega⟩, ⟨by repeat (first | (with_reducible first | exact HB.out | apply zqj | apply zqb | apply zqf | refine zqk ?_ GE323.out | refine zqk ?_ GE325.out) | exact HB.out)⟩⟩
      ·rw [if_neg c6] at H
       exact absurd H (by simp)
     ·rw [if_neg c5] at H
      exact absurd H (by simp)
    ·rw [if_neg c4] at H
     have c4b0 : decide (x5_1 < (l0.length : Int)) = false := decide_eq_false c4
     clear c4
     obtain rfl := Option.some.inj H
     go_wp2
     repeat (go_quiet (fail); try go_wp2)
     go_ret
     exact ⟨by first | rfl | (simp [errW_none, errW_some] <;> rfl) | (simp [*, errW_none, errW_some] <;> rfl), by repeat (first | (with_reducible first | exact HB.out | apply zqj | apply zqb | apply zqf) | exact HB.out)⟩
 ·rw [if_neg c3] at H
  have c3b0 : ((l0.length : Int) == (l1.length : Int)) = false := beq_eq_false_iff_ne.mpr c3
  have c3b1 : ((l0.length : Int) != (l1.length : Int)) = true := bne_iff_ne.mpr c3
  have c3b2 : (l0.length == l1.length) = false := by first | simpa using c3 | (simp at c3 ⊢; omega)
  obtain rfl := Option.some.inj H
  go_enter Tryz.func11, Tryz.ntmps11
  go_wp2
  repeat (go_quiet (fail); try go_wp2)
  go_ret
  exact ⟨by first | rfl | (simp [errW_none, errW_some] <;> rfl) | (simp [*, errW_none, errW_some] <;> rfl), by repeat (first | (with_reducible first | exact HB.out | apply zqj | apply zqb | apply zqf) | exact HB.out)⟩
end Go.Proofs.YtlglbpjccpdloaaGreat.PNamA
set_option linter.unusedVariables false
set_option linter.unusedSimpArgs false
namespace Go.Proofs.YtlglbpjccpdloaaGreat.Ext
open Go.RowKit Go.Proofs.YtlglbpjccpdloaaGreat.PNamA Go.Proofs.YtlglbpjccpdloaaGreatW.PrintWords Go.Proofs.YtlglbpjccpdloaaGreatW.PrintLast
def eqT (x y : S24) : Bool := decide (x.f0 = y.f0) && (x.f1 == y.f1 && (x.f2 == y.f2 && (x.f3 == y.f3 && (x.f4 == y.f4 && x.f5 == y.f5))))
theorem eqT_iff (x y : S24) : eqT x y = true ↔ x = y := by
  cases x; cases y
  simp [eqT]
def eqTL : List S24 → List S24 → Bool
  | [], [] => true
  | x :: r, y :: s => eqT x y && eqTL r s
  | _, _ => false
theorem eqTL_iff : ∀ (a b : List S24), eqTL a b = true ↔ a = b
  | [], [] => by simp [eqTL]
  | [], _ :: _ => by simp [eqTL]
  | _ :: _, [] => by simp [eqTL]
  | x :: r, y :: s => by simp [eqTL, eqT_iff, eqTL_iff r s]
def eqP (x y : S39) : Bool := decide (x.f0 = y.f0) && (x.f1 == y.f1 && (x.f2 == y.f2 && eqTL x.f3 y.f3))
theorem eqP_iff (x y : S39) : eqP x y = true ↔ x = y := by
  cases x; cases y
  simp [eqP, eqTL_iff]
def eqPL : List S39 → List S39 → Bool
  | [], [] => true
  | x :: r, y :: s => eqP x y && eqPL r s
  | _, _ => false
theorem eqPL_iff : ∀ (a b : List S39), eqPL a b = true ↔ a = b
  | [], [] => by simp [eqPL]
  | [], _ :: _ => by simp [eqPL]
  | _ :: _, [] => by simp [eqPL]
  | x :: r, y :: s => by simp [eqPL, eqP_iff, eqPL_iff r s]
theorem eqTL_len {a b : List S24} (h : a.length ≠ b.length) : eqTL a b = false := by
  cases hb : eqTL a b with
  | false => rfl
  | true => exact absurd (by rw [(eqTL_iff a b).1 hb]) h
theorem eqPL_len {a b : List S39} (h : a.length ≠ b.length) : eqPL a b = false := by
  cases hb : eqPL a b with
  | false => rfl
  | true => exact absurd (by rw [(eqPL_iff a b).1 hb]) h
def names_Same.f (a b : List S39) : Option Bool := some (eqPL a b)
theorem eqTox_l0 (a b : List S24) (hab : a.length = b.length) (hm : a.length ≤ 9223372036854775807) : ∀ (k i : Nat), a.length - i < k → i ≤ a.length →
    slices_Equal_api_Toxic_api_Toxic.l0 k a b (a.length : Int) (i : Int) = some (eqTL (a.drop i) (b.drop i)) := by
  intro k
  induction k with
  | zero => intro i h; omega
  | succ k ih =>
    intro i h hi
    unfold slices_Equal_api_Toxic_api_Toxic.l0
    by_cases hl : i < a.length
    · have hlb : i < b.length := by omega
      rw [if_pos (by omega), if_pos (by omega), if_pos (by omega), if_pos (by omega)]
      have ha : rd_T24 a (i : Int) = a[i] := by simp [rd_T24, hl]
      have hb : rd_T24 b (i : Int) = b[i] := by simp [rd_T24, hlb]
      rw [ha, hb, List.drop_eq_getElem_cons hl, List.drop_eq_getElem_cons hlb, eqTL]
      by_cases he : eqT a[i] b[i] = true
      · have he' := (eqT_iff _ _).1 he
        rw [if_neg (by rw [he']; simp), he, Bool.true_and, show wrap64 ((i : Int) + 1) = ((i + 1 : Nat) : Int) by unfold wrap64; omega]
        exact ih (i + 1) (by omega) (by omega)
      · have h2 : eqT a[i] b[i] = false := by simpa using he
        rw [if_pos ?_, h2, Bool.false_and]
        · unfold eqT at h2
          simp only [Bool.and_eq_false_iff, decide_eq_false_iff_not, beq_eq_false_iff_ne] at h2
          simp only [Bool.or_eq_true, Bool.not_eq_true', beq_eq_false_iff_ne]
          rcases h2 with h2 | h2 | h2 | h2 | h2 | h2
          · exact .inl (fun h3 => h2 ((nm_toList_eq_iff _ _).1 h3))
          · exact .inr (.inl h2)
          · exact .inr (.inr (.inl h2))
          · exact .inr (.inr (.inr (.inl h2)))
          · exact .inr (.inr (.inr (.inr (.inl h2))))
          · exact .inr (.inr (.inr (.inr (.inr h2))))
    · have hi2 : i = a.length := by omega
      rw [if_neg (by omega), List.drop_eq_nil_of_le (by omega), List.drop_eq_nil_of_le (by omega)]
      rfl
theorem eqTox_is (a b : List S24) (hm : a.length ≤ 9223372036854775807) : slices_Equal_api_Toxic_api_Toxic.f (a.length + 1) a b = some (eqTL a b) := by
  unfold slices_Equal_api_Toxic_api_Toxic.f
  by_cases h : a.length = b.length
  · rw [if_pos (by omega)]
    have := eqTox_l0 a b h hm (a.length + 1) 0 (by omega) (by omega)
    simpa using this
  · rw [if_neg (by omega), eqTL_len h]
set_option maxRecDepth 100000 in
theorem same1_calls (x y : S39) (A B : Option Addr) (c d : Nat) (w : World) (hx : Kd.C k24 w A x.f3.length x.f3) (hxc : x.f3.length ≤ c) (hy : Kd.C k24 w B y.f3.length y.f3) (hyc : y.f3.length ≤ d) :
    Calls Tryz.prog 48 #[.agg #[.string x.f0, .bool x.f1, .int .i64 x.f2, .slice A x.f3.length c], .agg #[.string y.f0, .bool y.f1, .int .i64 y.f2, .slice B y.f3.length d]] w fun e w' => e = .returned (.bool (eqP x y)) ∧ Below w.heap.size w w' := by
  have hq0 : (x.f0.toList == y.f0.toList) = decide (x.f0 = y.f0) := by
    rw [Bool.eq_iff_iff, beq_iff_eq, decide_eq_true_eq]
    exact nm_toList_eq_iff _ _
  have HE := Lib.hid (fun W (hb : Below w.heap.size w W) => slices_Equal_api_Toxic_api_Toxic.calls _ A c x.f3 B d y.f3 (eqTL x.f3 y.f3) W (Kd.C_below hx hb) hxc (Kd.C_below hy hb) hyc (eqTox_is _ _ hx.2.1))
  have HB := Lib.hid (((Below.refl w.heap.size w).alloc (Nat.le_refl _) (.cells #[.string x.f0, .bool x.f1, .int .i64 x.f2, .slice A x.f3.length c] 39)).alloc (by simp) (.cells #[.string y.f0, .bool y.f1, .int .i64 y.f2, .slice B y.f3.length d] 39))
  unfold eqP
  generalize eqTL x.f3 y.f3 = t at *
  generalize decide (x.f0 = y.f0) = b0 at *
  obtain ⟨b1, hq1⟩ : ∃ b, (x.f1 == y.f1) = b := ⟨_, rfl⟩
  obtain ⟨b2, hq2⟩ : ∃ b, (x.f2 == y.f2) = b := ⟨_, rfl⟩
  rw [hq1, hq2]
  generalize x.f3.length = nx at *
  generalize y.f3.length = ny at *
  clear hx hxc hy hyc
  cases b0
  · go_enter Tryz.func48, Tryz.ntmps48
    go_wp2_with fail
    go_ret
    exact ⟨rfl, HB.out⟩
  · cases b1
    · go_enter Tryz.func48, Tryz.ntmps48
      go_wp2_with fail
      go_ret
      exact ⟨rfl, HB.out⟩
    · cases b2
      · go_enter Tryz.func48, Tryz.ntmps48
        go_wp2_with fail
        go_ret
        exact ⟨rfl, HB.out⟩
      · go_enter Tryz.func48, Tryz.ntmps48
        go_wp2_with (go_at_call 49; refine (HE.out _ HB.out).mono ?_; rintro e w2 ⟨rfl, hd⟩; have HD := Lib.hid hd; clear hd)
        go_ret
        exact ⟨rfl, HB.out.trans (HD.out.below.mono HB.out.size)⟩
set_option maxRecDepth 100000 in
set_option maxHeartbeats 1000000 in
theorem eqf_calls (A0 : Option Addr) (c0 : Nat) (l0 : List S39) (A1 : Option Addr) (c1 : Nat) (l1 : List S39) (w : World) (hr0 : Kd.C k39 w A0 l0.length l0) (hr1 : Kd.C k39 w A1 l1.length l1) :
    Calls Tryz.prog 47 #[.slice A0 l0.length c0, .slice A1 l1.length c1, .func (.func 48) #[] #[]] w fun e w' => e = .returned (.bool (eqPL l0 l1)) ∧ Below w.heap.size w w' := by
  have hm : l0.length ≤ 9223372036854775807 := hr0.2.1
  have hm1 : l1.length ≤ 9223372036854775807 := hr1.2.1
  by_cases hlen : l0.length = l1.length
  · have HR0 := Lib.hid hr0
    have HR1 := Lib.hid hr1
    have HLL := Lib.hid hlen
    rw [← hlen] at HR1 ⊢
    obtain ⟨n, hn⟩ : ∃ n, l0.length = n := ⟨_, rfl⟩
    have HN := Lib.hid hn
    rw [hn] at hm HR0 HR1 ⊢
    clear hr0 hr1 hlen hn hm1
    have q1 : ((n : Int) != (n : Int)) = false := by simp
    go_enter Tryz.func47, Tryz.ntmps47
    go_wp2_with fail
    go_loopg [7, 8, 9, 17] n (fun gg _ _ _ s17 wr => ∃ kk : Nat, kk ≤ n ∧ n - kk ≤ gg ∧ s17 = .int .i64 kk ∧ Hid (Below w.heap.size w wr) ∧ Hid (eqPL l0 l1 = eqPL (l0.drop kk) (l1.drop kk)))
    case atStart => exact ⟨0, Nat.zero_le _, by omega, rfl, Lib.hid (Below.refl _ w), Lib.hid rfl⟩
    case round =>
      obtain ⟨kk, hkk, hg, rfl, BW, HP⟩ := hrel
      by_cases hlt : kk < n
      · have hl0 : kk < l0.length := by rw [HN.out]; exact hlt
        have hl1 : kk < l1.length := by rw [← HLL.out, HN.out]; exact hlt
        have hRa := Kd.C_below HR0.out BW.out
        have hRb := Kd.C_below HR1.out BW.out
        have hrd0 : zqe l0 (kk : Int) = l0[kk] := by simp [zqe, hl0]
        have hrd1 : zqe l1 (kk : Int) = l1[kk] := by simp [zqe, hl1]
        obtain ⟨ad, A3, c3, rfl, x0, x1, x2, x3, g1, g2⟩ := at_T39 hRa (kk : Int) (by omega) (by omega)
        obtain ⟨bd, B3, d3, rfl, y0, y1, y2, y3, g3, g4⟩ := at_T39 hRb (kk : Int) (by omega) (by omega)
        rw [hrd0] at x0 x1 x2 x3 g1 g2
        rw [hrd1] at y0 y1 y2 y3 g3 g4
        simp only [Int.toNat_natCast] at x0 x1 x2 x3 y0 y1 y2 y3
        have hx := HP.out
        rw [List.drop_eq_getElem_cons hl0, List.drop_eq_getElem_cons hl1, eqPL] at hx
        have HX := Lib.hid hx
        have HC := Lib.hid (fun W (hb : Below wr.heap.size wr W) => same1_calls l0[kk] l1[kk] A3 B3 c3 d3 W (Kd.C_below g2 hb) g1 (Kd.C_below g4 hb) g3)
        have HB2 := Lib.hid (((Below.refl wr.heap.size wr).alloc (Nat.le_refl _) (.cells #[.string l0[kk].f0, .bool l0[kk].f1, .int .i64 l0[kk].f2, .slice A3 l0[kk].f3.length c3] 39)).alloc (by simp) (.cells #[.string l1[kk].f0, .bool l1[kk].f1, .int .i64 l1[kk].f2, .slice B3 l1[kk].f3.length d3] 39))
        have y0' := nm_cell_at ((Below.refl wr.heap.size wr).alloc (Nat.le_refl _) (.cells #[.string l0[kk].f0, .bool l0[kk].f1, .int .i64 l0[kk].f2, .slice A3 l0[kk].f3.length c3] 39)) y0
        have y1' := nm_cell_at ((Below.refl wr.heap.size wr).alloc (Nat.le_refl _) (.cells #[.string l0[kk].f0, .bool l0[kk].f1, .int .i64 l0[kk].f2, .slice A3 l0[kk].f3.length c3] 39)) y1
        have y2' := nm_cell_at ((Below.refl wr.heap.size wr).alloc (Nat.le_refl _) (.cells #[.string l0[kk].f0, .bool l0[kk].f1, .int .i64 l0[kk].f2, .slice A3 l0[kk].f3.length c3] 39)) y2
        have y3' := nm_cell_at ((Below.refl wr.heap.size wr).alloc (Nat.le_refl _) (.cells #[.string l0[kk].f0, .bool l0[kk].f1, .int .i64 l0[kk].f2, .slice A3 l0[kk].f3.length c3] 39)) y3
        clear hRa hRb hrd0 hrd1 hx g1 g2 g3 g4 y0 y1 y2 y3
        have hi0 : (0 : Int) ≤ (kk : Int) := Int.natCast_nonneg _
        have hi1 : (kk : Int) < (n : Int) := by omega
        generalize l0[kk] = x at *
        generalize l1[kk] = y at *
        generalize hb : eqP x y = b at *
        have HQ := Lib.hid hb
        clear hb
        cases b
        · go_wp2_with (go_at_call 48; refine (HC.out _ HB2.out).mono ?_; rintro e w1 ⟨rfl, hb'⟩)
          go_ret
          exact ⟨by rw [HX.out]; rfl, BW.out.trans ((HB2.out.trans (hb'.mono HB2.out.size)).mono BW.out.size)⟩
        · go_wp2_with (go_at_call 48; refine (HC.out _ HB2.out).mono ?_; rintro e w1 ⟨rfl, hb'⟩)
          go_roundg (n - (kk + 1))
          case measure => omega
          case rel => exact ⟨kk + 1, by omega, by omega, by go_num, Lib.hid (BW.out.trans ((HB2.out.trans (hb'.mono HB2.out.size)).mono BW.out.size)), Lib.hid (by rw [HX.out, Bool.true_and])⟩
      · have hk : kk = n := by omega
        subst hk
        have hx := HP.out
        rw [List.drop_eq_nil_of_le (by rw [HN.out]; exact Nat.le_refl _), List.drop_eq_nil_of_le (by rw [← HLL.out, HN.out]; exact Nat.le_refl _)] at hx
        have HY := Lib.hid hx
        clear hx
        go_wp2_with fail
        go_ret
        exact ⟨by rw [HY.out]; rfl, BW.out⟩
  · have hres := eqPL_len hlen
    rw [hres]
    have q1 : ((l0.length : Int) != (l1.length : Int)) = true := by simp; omega
    have q2 : (l0.length != l1.length) = true := by simpa using hlen
    generalize l0.length = n at *
    generalize l1.length = m at *
    clear hr0 hr1 hres hlen
    go_enter Tryz.func47, Tryz.ntmps47
    go_wp2_with fail
    go_ret
    exact ⟨rfl, Below.refl _ _⟩
theorem names_Same.calls (A0 : Option Addr) (c0 : Nat) (l0 : List S39) (A1 : Option Addr) (c1 : Nat) (l1 : List S39) (r : Bool) (w : World) (hr0 : Kd.C k39 w A0 l0.length l0) (hc0 : l0.length ≤ c0) (hr1 : Kd.C k39 w A1 l1.length l1) (hc1 : l1.length ≤ c1) (h : names_Same.f l0 l1 = some r) :
    Calls Tryz.prog 20 #[.slice A0 l0.length c0, .slice A1 l1.length c1] w fun e w' => e = .returned (.bool r) ∧ Below w.heap.size w w' := by
  have HC := Lib.hid (eqf_calls A0 c0 l0 A1 c1 l1 w hr0 hr1)
  rw [Option.some.inj h] at HC
  generalize l0.length = n at *
  generalize l1.length = m at *
  clear h hr0 hr1 hc0 hc1
  go_enter Tryz.func20, Tryz.ntmps20
  go_wp2_with (go_at_call 47; refine HC.out.mono ?_; rintro e w1 ⟨rfl, hb'⟩)
  go_ret
  exact ⟨rfl, hb'⟩
end Go.Proofs.YtlglbpjccpdloaaGreat.Ext
