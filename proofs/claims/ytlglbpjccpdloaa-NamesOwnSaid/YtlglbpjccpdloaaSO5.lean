/- Gathered by a program of this session (shake.py): what the claim's theorem needs. -/
import Derived.Test.YtlglbpjccpdloaaSO1
import Derived.Test.YtlglbpjccpdloaaSO2
import Derived.Deep.RegionLaw
import Derived.IntWalk
import Derived.Lib.SliceRun
import Derived.WalkSpells
set_option linter.unusedVariables false
set_option linter.unusedSimpArgs false
namespace Go.Proofs.Ytlglbpjccpdloaa.Ext
end Go.Proofs.Ytlglbpjccpdloaa.Ext
namespace Go.Proofs.Ytlglbpjccpdloaa.PNamA
end Go.Proofs.Ytlglbpjccpdloaa.PNamA
namespace Go.Proofs.Ytlglbpjccpdloaa.ToxZ
end Go.Proofs.Ytlglbpjccpdloaa.ToxZ
namespace Go.Proofs.YtlglbpjccpdloaaW.PrintLast
end Go.Proofs.YtlglbpjccpdloaaW.PrintLast
namespace Go.Proofs.YtlglbpjccpdloaaW.PrintMore
end Go.Proofs.YtlglbpjccpdloaaW.PrintMore
namespace Go.Proofs.YtlglbpjccpdloaaW.PrintWords
end Go.Proofs.YtlglbpjccpdloaaW.PrintWords
namespace Go.Proofs.Ytlglbpjccpdloaa.PNamA
open Go.Proofs.Ytlglbpjccpdloaa.Ext Go.Proofs.Ytlglbpjccpdloaa.ToxZ Go.RowKit Go.Proofs.YtlglbpjccpdloaaW.PrintWords Go.Proofs.YtlglbpjccpdloaaW.PrintLast Go.Proofs.YtlglbpjccpdloaaW.PrintMore
attribute [local go_sem] max2_int min2_int max_two min_two max_three min_three max_four min_four   -- for this text's walks alone
set_option linter.unusedVariables false
set_option linter.unusedSimpArgs false
private theorem pw_size_mk (l : Array UInt8) : (⟨l⟩ : ByteArray).size = l.size := rfl
attribute [local go_sem high] eqA39
def chicaneref14_Find.l0 : Nat → List (S24) → ByteArray → Int → Option (Int)
 | 0, _, _, _ => none
 | k + 1, x0, x1, x5 => if x5 < (x0.length : Int) then (if 0 ≤ x5 then (if ((rd_T24 x0 x5).f0).toList = x1.toList then (some x5) else (chicaneref14_Find.l0 k x0 x1 (wrap64 (x5 + 1)))) else (none)) else (some (-1))
def chicaneref14_Find.f (k : Nat) (l0 : List (S24)) (a1 : ByteArray) : Option (Int) := chicaneref14_Find.l0 k l0 a1 0
theorem chicaneref14_Find.mono_l : ∀ k, (∀ y0 y1 y2, LeO (chicaneref14_Find.l0 k y0 y1 y2) (chicaneref14_Find.l0 (k + 1) y0 y1 y2))
 | 0 => fun _ _ _ r h => by simp [chicaneref14_Find.l0] at h
 | k + 1 => by
  have ih0 := chicaneref14_Find.mono_l k
  ·intro y0 y1 y2
   unfold chicaneref14_Find.l0
   repeat' first
   | (with_reducible exact ih0 _ _ _)
   | (with_reducible exact LeO.refl _)
   | (with_reducible exact LeO.none _)
   | (with_reducible refine LeO.ite ?_ ?_)
   | (with_reducible refine LeO.bind ?_ (fun _ => ?_))
   | exact ih0 _ _ _
   | exact LeO.none _
   | refine LeO.ite ?_ ?_
   | refine LeO.bind ?_ (fun _ => ?_)
theorem chicaneref14_Find.mono : ∀ a0 a1 k, LeO (chicaneref14_Find.f k a0 a1) (chicaneref14_Find.f (k + 1) a0 a1) := by
 intro a0 a1 k
 have ih0 := chicaneref14_Find.mono_l k
 unfold chicaneref14_Find.f
 repeat' first
   | (with_reducible exact ih0 _ _ _)
   | (with_reducible exact LeO.refl _)
   | (with_reducible exact LeO.none _)
   | (with_reducible refine LeO.ite ?_ ?_)
   | (with_reducible refine LeO.bind ?_ (fun _ => ?_))
   | exact ih0 _ _ _
   | exact LeO.none _
   | refine LeO.ite ?_ ?_
   | refine LeO.bind ?_ (fun _ => ?_)
mutual
def chicaneref14_Same.l0 : Nat → List (S24) → List (S24) → Int → Option (Bool)
 | 0, _, _, _ => none
 | k + 1, x0, x1, x5 => if x5 < (x0.length : Int) then (if 0 ≤ x5 then (if x5 < (x1.length : Int) then (if ((rd_T24 x0 x5).f0).toList = ((rd_T24 x1 x5).f0).toList then (if (((rd_T24 x0 x5).f1) != ((rd_T24 x1 x5).f1)) = true then (chicaneref14_Same.j1 k x0 x1 x5 true ((rd_T24 x0 x5).f0) ((rd_T24 x0 x5).f1) ((rd_T24 x0 x5).f2) ((rd_T24 x0 x5).f3) ((rd_T24 x1 x5).f0) ((rd_T24 x1 x5).f1) ((rd_T24 x1 x5).f2) ((rd_T24 x1 x5).f3)) else (if ((rd_T24 x0 x5).f2) = ((rd_T24 x1 x5).f2) then (chicaneref14_Same.j1 k x0 x1 x5 ((((rd_T24 x0 x5).f3).length : Int) != (((rd_T24 x1 x5).f3).length : Int)) ((rd_T24 x0 x5).f0) ((rd_T24 x0 x5).f1) ((rd_T24 x0 x5).f2) ((rd_T24 x0 x5).f3) ((rd_T24 x1 x5).f0) ((rd_T24 x1 x5).f1) ((rd_T24 x1 x5).f2) ((rd_T24 x1 x5).f3)) else (chicaneref14_Same.j1 k x0 x1 x5 true ((rd_T24 x0 x5).f0) ((rd_T24 x0 x5).f1) ((rd_T24 x0 x5).f2) ((rd_T24 x0 x5).f3) ((rd_T24 x1 x5).f0) ((rd_T24 x1 x5).f1) ((rd_T24 x1 x5).f2) ((rd_T24 x1 x5).f3)))) else (chicaneref14_Same.j1 k x0 x1 x5 true ((rd_T24 x0 x5).f0) ((rd_T24 x0 x5).f1) ((rd_T24 x0 x5).f2) ((rd_T24 x0 x5).f3) ((rd_T24 x1 x5).f0) ((rd_T24 x1 x5).f1) ((rd_T24 x1 x5).f2) ((rd_T24 x1 x5).f3))) else (none)) else (none)) else (some true)
def chicaneref14_Same.j1 : Nat → List (S24) → List (S24) → Int → Bool → ByteArray → Bool → Int → List (S39) → ByteArray → Bool → Int → List (S39) → Option (Bool)
 | 0, _, _, _, _, _, _, _, _, _, _, _, _ => none
 | k + 1, x0, x1, x5, x55, x212000, x212001, x212002, x212003, x214000, x214001, x214002, x214003 => if x55 = true then (some false) else (chicaneref14_Same.l1 k x0 x1 x5 0 x212000 x212001 x212002 x212003 x214000 x214001 x214002 x214003)
def chicaneref14_Same.l1 : Nat → List (S24) → List (S24) → Int → Int → ByteArray → Bool → Int → List (S39) → ByteArray → Bool → Int → List (S39) → Option (Bool)
 | 0, _, _, _, _, _, _, _, _, _, _, _, _ => none
 | k + 1, x0, x1, x5, x8, x212000, x212001, x212002, x212003, x214000, x214001, x214002, x214003 => if x8 < (x212003.length : Int) then (if 0 ≤ x8 then (if x8 < (x214003.length : Int) then (if (!((((rd_T39 x212003 x8).f0).toList) == (((rd_T39 x214003 x8).f0).toList)) || (!(((rd_T39 x212003 x8).f1) == ((rd_T39 x214003 x8).f1)) || (!(((rd_T39 x212003 x8).f2) == ((rd_T39 x214003 x8).f2)) || (!(((rd_T39 x212003 x8).f3) == ((rd_T39 x214003 x8).f3)) || (!(((rd_T39 x212003 x8).f4) == ((rd_T39 x214003 x8).f4)) || (!(((rd_T39 x212003 x8).f5) == ((rd_T39 x214003 x8).f5)))))))) = true then (some false) else (chicaneref14_Same.l1 k x0 x1 x5 (wrap64 (x8 + 1)) x212000 x212001 x212002 x212003 x214000 x214001 x214002 x214003)) else (none)) else (none)) else (chicaneref14_Same.l0 k x0 x1 (wrap64 (x5 + 1)))
end
def chicaneref14_Same.f (k : Nat) (l0 : List (S24)) (l1 : List (S24)) : Option (Bool) := if (l0.length : Int) = (l1.length : Int) then (chicaneref14_Same.l0 k l0 l1 0) else (some false)
theorem chicaneref14_Same.mono_l : ∀ k, (∀ y0 y1 y2, LeO (chicaneref14_Same.l0 k y0 y1 y2) (chicaneref14_Same.l0 (k + 1) y0 y1 y2)) ∧ (∀ y0 y1 y2 y3 y4 y5 y6 y7 y8 y9 y10 y11, LeO (chicaneref14_Same.j1 k y0 y1 y2 y3 y4 y5 y6 y7 y8 y9 y10 y11) (chicaneref14_Same.j1 (k + 1) y0 y1 y2 y3 y4 y5 y6 y7 y8 y9 y10 y11)) ∧ (∀ y0 y1 y2 y3 y4 y5 y6 y7 y8 y9 y10 y11, LeO (chicaneref14_Same.l1 k y0 y1 y2 y3 y4 y5 y6 y7 y8 y9 y10 y11) (chicaneref14_Same.l1 (k + 1) y0 y1 y2 y3 y4 y5 y6 y7 y8 y9 y10 y11))
 | 0 => ⟨fun _ _ _ r h => by simp [chicaneref14_Same.l0] at h, fun _ _ _ _ _ _ _ _ _ _ _ _ r h => by simp [chicaneref14_Same.j1] at h, fun _ _ _ _ _ _ _ _ _ _ _ _ r h => by simp [chicaneref14_Same.l1] at h⟩
 | k + 1 => by
  obtain ⟨ih0, ih1, ih2⟩ := chicaneref14_Same.mono_l k
  refine ⟨?_, ?_, ?_⟩
  ·intro y0 y1 y2
   unfold chicaneref14_Same.l0
   repeat' first
   | (with_reducible exact ih0 _ _ _)
   | (with_reducible exact ih1 _ _ _ _ _ _ _ _ _ _ _ _)
   | (with_reducible exact ih2 _ _ _ _ _ _ _ _ _ _ _ _)
   | (with_reducible exact LeO.refl _)
   | (with_reducible exact LeO.none _)
   | (with_reducible refine LeO.ite ?_ ?_)
   | (with_reducible refine LeO.bind ?_ (fun _ => ?_))
   | exact ih0 _ _ _
   | exact ih1 _ _ _ _ _ _ _ _ _ _ _ _
   | exact ih2 _ _ _ _ _ _ _ _ _ _ _ _
   | exact LeO.none _
   | refine LeO.ite ?_ ?_
   | refine LeO.bind ?_ (fun _ => ?_)
  ·intro y0 y1 y2 y3 y4 y5 y6 y7 y8 y9 y10 y11
   unfold chicaneref14_Same.j1
   repeat' first
   | (with_reducible exact ih0 _ _ _)
   | (with_reducible exact ih1 _ _ _ _ _ _ _ _ _ _ _ _)
   | (with_reducible exact ih2 _ _ _ _ _ _ _ _ _ _ _ _)
   | (with_reducible exact LeO.refl _)
   | (with_reducible exact LeO.none _)
   | (with_reducible refine LeO.ite ?_ ?_)
   | (with_reducible refine LeO.bind ?_ (fun _ => ?_))
   | exact ih0 _ _ _
   | exact ih1 _ _ _ _ _ _ _ _ _ _ _ _
   | exact ih2 _ _ _ _ _ _ _ _ _ _ _ _
   | exact LeO.none _
   | refine LeO.ite ?_ ?_
   | refine LeO.bind ?_ (fun _ => ?_)
  ·intro y0 y1 y2 y3 y4 y5 y6 y7 y8 y9 y10 y11
   unfold chicaneref14_Same.l1
   repeat' first
   | (with_reducible exact ih0 _ _ _)
   | (with_reducible exact ih1 _ _ _ _ _ _ _ _ _ _ _ _)
   | (with_reducible exact ih2 _ _ _ _ _ _ _ _ _ _ _ _)
   | (with_reducible exact LeO.refl _)
   | (with_reducible exact LeO.none _)
   | (with_reducible refine LeO.ite ?_ ?_)
   | (with_reducible refine LeO.bind ?_ (fun _ => ?_))
   | exact ih0 _ _ _
   | exact ih1 _ _ _ _ _ _ _ _ _ _ _ _
   | exact ih2 _ _ _ _ _ _ _ _ _ _ _ _
   | exact LeO.none _
   | refine LeO.ite ?_ ?_
   | refine LeO.bind ?_ (fun _ => ?_)
theorem chicaneref14_Same.mono : ∀ a0 a1 k, LeO (chicaneref14_Same.f k a0 a1) (chicaneref14_Same.f (k + 1) a0 a1) := by
 intro a0 a1 k
 obtain ⟨ih0, ih1, ih2⟩ := chicaneref14_Same.mono_l k
 unfold chicaneref14_Same.f
 repeat' first
   | (with_reducible exact ih0 _ _ _)
   | (with_reducible exact ih1 _ _ _ _ _ _ _ _ _ _ _ _)
   | (with_reducible exact ih2 _ _ _ _ _ _ _ _ _ _ _ _)
   | (with_reducible exact LeO.refl _)
   | (with_reducible exact LeO.none _)
   | (with_reducible refine LeO.ite ?_ ?_)
   | (with_reducible refine LeO.bind ?_ (fun _ => ?_))
   | exact ih0 _ _ _
   | exact ih1 _ _ _ _ _ _ _ _ _ _ _ _
   | exact ih2 _ _ _ _ _ _ _ _ _ _ _ _
   | exact LeO.none _
   | refine LeO.ite ?_ ?_
   | refine LeO.bind ?_ (fun _ => ?_)
set_option maxHeartbeats 8000000 in
set_option maxRecDepth 100000 in
theorem chicaneref14_Same.calls (k : Nat) (A0 : Option Addr) (c0 : Nat) (l0 : List (S24)) (A1 : Option Addr) (c1 : Nat) (l1 : List (S24)) (r : Bool) (w : World) (hr0 : Kd.C k24 w A0 l0.length l0) (hc0 : l0.length ≤ c0) (hr1 : Kd.C k24 w A1 l1.length l1) (hc1 : l1.length ≤ c1) (h : chicaneref14_Same.f k l0 l1 = some r) :
  Calls Try.prog 16 #[.slice A0 l0.length c0, .slice A1 l1.length c1] w fun e w' => e = .returned (.bool r) ∧ Below w.heap.size w w' := by
 have hu24 := Try.underlying24
 have hu39 := Try.underlying39
 have HR0 := Aside0.mk hr0
 have HC0 := Aside0.mk hc0
 clear hr0 hc0
 have HR1 := Aside0.mk hr1
 have HC1 := Aside0.mk hc1
 clear hr1 hc1
 have HB := Aside0.mk (Below.refl w.heap.size w)
 have H : (if (l0.length : Int) = (l1.length : Int) then (chicaneref14_Same.l0 k l0 l1 0) else (some false)) = some r := h
 clear h
 by_cases c3 : (l0.length : Int) = (l1.length : Int)
 ·rw [if_pos c3] at H
  have c3b0 : ((l0.length : Int) == (l1.length : Int)) = true := beq_iff_eq.mpr c3
  have c3b1 : ((l0.length : Int) != (l1.length : Int)) = false := bne_eq_false_iff_eq.mpr c3
  have c3b2 : (l0.length == l1.length) = true := by first | simpa using c3 | (simp at c3 ⊢; omega)
  clear c3
  have H' := Aside0.mk H
  clear H
  go_enter Try.func16, Try.ntmps16
  go_wp2
  repeat (go_quiet (fail); try go_wp2)
  go_loopg [5] k (fun kq v5 w' => ∃ (x5_1 : Int), v5 = .int .i64 x5_1 ∧ Aside0 (chicaneref14_Same.l0 kq l0 l1 x5_1 = some r) ∧ Aside0 (kq ≤ k) ∧ Aside0 (Below w.heap.size w w'))
  case atStart => exact ⟨(0), (by first | rfl | (simp; done) | (simp [*]; done)), H', ⟨Nat.le_refl _⟩, ⟨by repeat (first | (with_reducible first | exact HB.out | apply below_alloc | apply pw_below_drewN | apply below_drew1) | exact HB.out)⟩⟩
  case round =>
   clear H'
   try clear c1
   try clear p2
   try clear c3
   try clear c3b0
   try clear c3b1
   try clear c3b2
   try clear c3b3
   obtain ⟨x5_1, rfl, HA, HK1, HB⟩ := hrel
   cases gk with
   | zero => exact absurd HA.out (by simp [chicaneref14_Same.l0])
   | succ k1 =>
    have H := HA.out
    clear HA
    simp only [chicaneref14_Same.l0] at H
    by_cases c4 : x5_1 < (l0.length : Int)
    ·rw [if_pos c4] at H
     have c4b0 : decide (x5_1 < (l0.length : Int)) = true := decide_eq_true c4
     clear c4
     by_cases c5 : 0 ≤ x5_1
     ·rw [if_pos c5] at H
      have c5b0 : decide (0 ≤ x5_1) = true := decide_eq_true c5
      clear c5
      by_cases c6 : x5_1 < (l1.length : Int)
      ·rw [if_pos c6] at H
       have c6b0 : decide (x5_1 < (l1.length : Int)) = true := decide_eq_true c6
       clear c6
       have HC7 := Aside0.mk H
       clear H
       have p210 : 0 ≤ (x5_1 : Int) := of_decide_eq_true (by first | (with_reducible assumption) | assumption)
       have q210 : x5_1 < (l0.length : Int) := of_decide_eq_true (by first | (with_reducible assumption) | assumption)
       obtain ⟨ad210, A210_3, c210_3, e210, hx210_0, hx210_1, hx210_2, hx210_3, hl210_3, hi210_3⟩ := at_T24 HR0.out x5_1 p210 q210
       cases e210
       replace hx210_0 := (HB.out.cell (World.block_lt_of_cell? w _ hx210_0)).trans hx210_0
       replace hx210_1 := (HB.out.cell (World.block_lt_of_cell? w _ hx210_1)).trans hx210_1
       replace hx210_2 := (HB.out.cell (World.block_lt_of_cell? w _ hx210_2)).trans hx210_2
       replace hx210_3 := (HB.out.cell (World.block_lt_of_cell? w _ hx210_3)).trans hx210_3
       have HR210_3 := Aside0.mk hi210_3
       have HC210_3 := Aside0.mk hl210_3
       clear hi210_3 hl210_3
       replace p210 := eq_true p210
       replace q210 := eq_true q210
       go_upto_region 8 with (first | ((with_reducible refine gate_dst (N := 6) rfl ?_); (try (refine gate_guard (by rfl) ?_; dsimp only)); refine box_event ?hg (N := 6) ?hd (cs := #[.string (⟨#[]⟩ : ByteArray), .bool false, .int .i64 0, .slice none 0 0]) (t := 24) ?hr ?_; (case hd => rfl); (case hg => rfl); (case hr => first | (go_simp; done) | (go_simp; rfl)); intro gb211 hg w8 hbox hb; have n0_ := Aside0.mk (below_step (by repeat (first | (with_reducible first | exact HB.out | apply below_alloc | apply pw_below_drewN | apply below_drew1) | exact HB.out)) hb); have n1_ := Aside0.mk (hbox); have n2_ := Aside0.mk ((by rw [hg]; exact (below_size (by repeat (first | (with_reducible first | exact HB.out | apply below_alloc | apply pw_below_drewN | apply below_drew1) | exact HB.out))) : w.heap.size ≤ gb211)); have n3_ := Aside0.mk ((by rw [hg]; exact (below_size (by repeat (first | (with_reducible first | exact HB.out | apply below_alloc | apply pw_below_drewN | apply below_drew1) | exact HB.out))) : w.heap.size ≤ gb211)); clear HB; have HB := n0_; have BK211 := n1_; have GW211 := n2_; have GE211 := n3_; clear n0_ n1_ n2_ n3_; clear hb hbox hg; have hcz9_0 : w8.cell? ⟨gb211, 0, none⟩ = some (.string (⟨#[]⟩ : ByteArray)) := (blk_cell BK211.out 0).trans rfl; have hcz9_1 : w8.cell? ⟨gb211, 1, none⟩ = some (.bool false) := (blk_cell BK211.out 1).trans rfl; have hcz9_2 : w8.cell? ⟨gb211, 2, none⟩ = some (.int .i64 0) := (blk_cell BK211.out 2).trans rfl; have hcz9_3 : w8.cell? ⟨gb211, 3, none⟩ = some (.slice none 0 0) := (blk_cell BK211.out 3).trans rfl; have hfz9_0 := blk_frozen BK211.out 0; have hfz9_1 := blk_frozen BK211.out 1; have hfz9_2 := blk_frozen BK211.out 2; have hfz9_3 := blk_frozen BK211.out 3; have p212 : 0 ≤ (x5_1 : Int) := of_decide_eq_true (by first | (with_reducible assumption) | assumption); have q212 : x5_1 < (l1.length : Int) := of_decide_eq_true (by first | (with_reducible assumption) | assumption); obtain ⟨ad212, A212_3, c212_3, e212, hx212_0, hx212_1, hx212_2, hx212_3, hl212_3, hi212_3⟩ := at_T24 HR1.out x5_1 p212 q212; cases e212; have hn212_0 : ad212.block ≠ gb211 := Nat.ne_of_lt (Nat.lt_of_lt_of_le (by have := World.block_lt_of_cell? _ _ hx212_0; first | rwa [add_block] at this | exact this) GW211.out); have hn212_1 : ad212.block ≠ gb211 := Nat.ne_of_lt (Nat.lt_of_lt_of_le (by have := World.block_lt_of_cell? _ _ hx212_0; first | rwa [add_block] at this | exact this) GW211.out); have hn212_2 : ad212.block ≠ gb211 := Nat.ne_of_lt (Nat.lt_of_lt_of_le (by have := World.block_lt_of_cell? _ _ hx212_0; first | rwa [add_block] at this | exact this) GW211.out); have hn212_3 : ad212.block ≠ gb211 := Nat.ne_of_lt (Nat.lt_of_lt_of_le (by have := World.block_lt_of_cell? _ _ hx212_0; first | rwa [add_block] at this | exact this) GW211.out); replace hx212_0 := (HB.out.cell (World.block_lt_of_cell? w _ hx212_0)).trans hx212_0; replace hx212_1 := (HB.out.cell (World.block_lt_of_cell? w _ hx212_1)).trans hx212_1; replace hx212_2 := (HB.out.cell (World.block_lt_of_cell? w _ hx212_2)).trans hx212_2; replace hx212_3 := (HB.out.cell (World.block_lt_of_cell? w _ hx212_3)).trans hx212_3; have HR212_3 := Aside0.mk hi212_3; have HC212_3 := Aside0.mk hl212_3; clear hi212_3 hl212_3; replace hx212_0 := (cell_far (p := ⟨gb211, 0, none⟩) (by first | (rw [add_block]; exact hn212_0) | (show (Addr.add _ _).block ≠ _; rw [add_block]; exact hn212_0) | exact hn212_0) (.string ((rd_T24 l0 x5_1).f0))).trans hx212_0; replace hx212_1 := (cell_far (p := ⟨gb211, 0, none⟩) (by first | (rw [add_block]; exact hn212_0) | (show (Addr.add _ _).block ≠ _; rw [add_block]; exact hn212_0) | exact hn212_0) (.string ((rd_T24 l0 x5_1).f0))).trans hx212_1; replace hx212_2 := (cell_far (p := ⟨gb211, 0, none⟩) (by first | (rw [add_block]; exact hn212_0) | (show (Addr.add _ _).block ≠ _; rw [add_block]; exact hn212_0) | exact hn212_0) (.string ((rd_T24 l0 x5_1).f0))).trans hx212_2; replace hx212_3 := (cell_far (p := ⟨gb211, 0, none⟩) (by first | (rw [add_block]; exact hn212_0) | (show (Addr.add _ _).block ≠ _; rw [add_block]; exact hn212_0) | exact hn212_0) (.string ((rd_T24 l0 x5_1).f0))).trans hx212_3; replace hx212_0 := (cell_far (p := ⟨gb211, 1, none⟩) (by first | (rw [add_block]; exact hn212_1) | (show (Addr.add _ _).block ≠ _; rw [add_block]; exact hn212_1) | exact hn212_1) (.bool ((rd_T24 l0 x5_1).f1))).trans hx212_0; replace hx212_1 := (cell_far (p := ⟨gb211, 1, none⟩) (by first | (rw [add_block]; exact hn212_1) | (show (Addr.add _ _).block ≠ _; rw [add_block]; exact hn212_1) | exact hn212_1) (.bool ((rd_T24 l0 x5_1).f1))).trans hx212_1; replace hx212_2 := (cell_far (p := ⟨gb211, 1, none⟩) (by first | (rw [add_block]; exact hn212_1) | (show (Addr.add _ _).block ≠ _; rw [add_block]; exact hn212_1) | exact hn212_1) (.bool ((rd_T24 l0 x5_1).f1))).trans hx212_2; replace hx212_3 := (cell_far (p := ⟨gb211, 1, none⟩) (by first | (rw [add_block]; exact hn212_1) | (show (Addr.add _ _).block ≠ _; rw [add_block]; exact hn212_1) | exact hn212_1) (.bool ((rd_T24 l0 x5_1).f1))).trans hx212_3; replace hx212_0 := (cell_far (p := ⟨gb211, 2, none⟩) (by first | (rw [add_block]; exact hn212_2) | (show (Addr.add _ _).block ≠ _; rw [add_block]; exact hn212_2) | exact hn212_2) (.int .i64 ((rd_T24 l0 x5_1).f2))).trans hx212_0; replace hx212_1 := (cell_far (p := ⟨gb211, 2, none⟩) (by first | (rw [add_block]; exact hn212_2) | (show (Addr.add _ _).block ≠ _; rw [add_block]; exact hn212_2) | exact hn212_2) (.int .i64 ((rd_T24 l0 x5_1).f2))).trans hx212_1; replace hx212_2 := (cell_far (p := ⟨gb211, 2, none⟩) (by first | (rw [add_block]; exact hn212_2) | (show (Addr.add _ _).block ≠ _; rw [add_block]; exact hn212_2) | exact hn212_2) (.int .i64 ((rd_T24 l0 x5_1).f2))).trans hx212_2; replace hx212_3 := (cell_far (p := ⟨gb211, 2, none⟩) (by first | (rw [add_block]; exact hn212_2) | (show (Addr.add _ _).block ≠ _; rw [add_block]; exact hn212_2) | exact hn212_2) (.int .i64 ((rd_T24 l0 x5_1).f2))).trans hx212_3; replace hx212_0 := (cell_far (p := ⟨gb211, 3, none⟩) (by first | (rw [add_block]; exact hn212_3) | (show (Addr.add _ _).block ≠ _; rw [add_block]; exact hn212_3) | exact hn212_3) (.slice A210_3 ((rd_T24 l0 x5_1).f3).length c210_3)).trans hx212_0; replace hx212_1 := (cell_far (p := ⟨gb211, 3, none⟩) (by first | (rw [add_block]; exact hn212_3) | (show (Addr.add _ _).block ≠ _; rw [add_block]; exact hn212_3) | exact hn212_3) (.slice A210_3 ((rd_T24 l0 x5_1).f3).length c210_3)).trans hx212_1; replace hx212_2 := (cell_far (p := ⟨gb211, 3, none⟩) (by first | (rw [add_block]; exact hn212_3) | (show (Addr.add _ _).block ≠ _; rw [add_block]; exact hn212_3) | exact hn212_3) (.slice A210_3 ((rd_T24 l0 x5_1).f3).length c210_3)).trans hx212_2; replace hx212_3 := (cell_far (p := ⟨gb211, 3, none⟩) (by first | (rw [add_block]; exact hn212_3) | (show (Addr.add _ _).block ≠ _; rw [add_block]; exact hn212_3) | exact hn212_3) (.slice A210_3 ((rd_T24 l0 x5_1).f3).length c210_3)).trans hx212_3; (try have hy212_0 := fun (n_ : Nat) => (show ((((((w8.drewN n_).setCell ⟨gb211, 0, none⟩ (.string ((rd_T24 l0 x5_1).f0))).setCell ⟨gb211, 1, none⟩ (.bool ((rd_T24 l0 x5_1).f1))).setCell ⟨gb211, 2, none⟩ (.int .i64 ((rd_T24 l0 x5_1).f2))).setCell ⟨gb211, 3, none⟩ (.slice A210_3 ((rd_T24 l0 x5_1).f3).length c210_3))).cell? _ = some _ from hx212_0)); (try have hy212_1 := fun (n_ : Nat) => (show ((((((w8.drewN n_).setCell ⟨gb211, 0, none⟩ (.string ((rd_T24 l0 x5_1).f0))).setCell ⟨gb211, 1, none⟩ (.bool ((rd_T24 l0 x5_1).f1))).setCell ⟨gb211, 2, none⟩ (.int .i64 ((rd_T24 l0 x5_1).f2))).setCell ⟨gb211, 3, none⟩ (.slice A210_3 ((rd_T24 l0 x5_1).f3).length c210_3))).cell? _ = some _ from hx212_1)); (try have hy212_2 := fun (n_ : Nat) => (show ((((((w8.drewN n_).setCell ⟨gb211, 0, none⟩ (.string ((rd_T24 l0 x5_1).f0))).setCell ⟨gb211, 1, none⟩ (.bool ((rd_T24 l0 x5_1).f1))).setCell ⟨gb211, 2, none⟩ (.int .i64 ((rd_T24 l0 x5_1).f2))).setCell ⟨gb211, 3, none⟩ (.slice A210_3 ((rd_T24 l0 x5_1).f3).length c210_3))).cell? _ = some _ from hx212_2)); (try have hy212_3 := fun (n_ : Nat) => (show ((((((w8.drewN n_).setCell ⟨gb211, 0, none⟩ (.string ((rd_T24 l0 x5_1).f0))).setCell ⟨gb211, 1, none⟩ (.bool ((rd_T24 l0 x5_1).f1))).setCell ⟨gb211, 2, none⟩ (.int .i64 ((rd_T24 l0 x5_1).f2))).setCell ⟨gb211, 3, none⟩ (.slice A210_3 ((rd_T24 l0 x5_1).f3).length c210_3))).cell? _ = some _ from hx212_3)); clear hn212_0; clear hn212_1; clear hn212_2; clear hn212_3; replace p212 := eq_true p212; replace q212 := eq_true q212) | ((with_reducible refine gate_dst (N := 7) rfl ?_); (try (refine gate_guard (by rfl) ?_; dsimp only)); refine box_event ?hg (N := 7) ?hd (cs := #[.string (⟨#[]⟩ : ByteArray), .bool false, .int .i64 0, .slice none 0 0]) (t := 24) ?hr ?_; (case hd => rfl); (case hg => rfl); (case hr => first | (go_simp; done) | (go_simp; rfl)); intro gb213 hg w10 hbox hb; have n0_ := Aside0.mk (blk_below (g := gb211) (o := .cells #[.string ((rd_T24 l0 x5_1).f0), .bool ((rd_T24 l0 x5_1).f1), .int .i64 ((rd_T24 l0 x5_1).f2), .slice A210_3 ((rd_T24 l0 x5_1).f3).length c210_3] 24 (0, 0)) (by (with_reducible repeat (first | refine blk_drewN ?_ _ | refine blk_drew ?_ | refine blk_alloc ?_ _)); refine blk_put (cs := #[.string ((rd_T24 l0 x5_1).f0), .bool ((rd_T24 l0 x5_1).f1), .int .i64 ((rd_T24 l0 x5_1).f2), .slice none 0 0]) ?_ 3 _ rfl; (with_reducible repeat (first | refine blk_drewN ?_ _ | refine blk_drew ?_ | refine blk_alloc ?_ _)); refine blk_put (cs := #[.string ((rd_T24 l0 x5_1).f0), .bool ((rd_T24 l0 x5_1).f1), .int .i64 0, .slice none 0 0]) ?_ 2 _ rfl; (with_reducible repeat (first | refine blk_drewN ?_ _ | refine blk_drew ?_ | refine blk_alloc ?_ _)); refine blk_put (cs := #[.string ((rd_T24 l0 x5_1).f0), .bool false, .int .i64 0, .slice none 0 0]) ?_ 1 _ rfl; (with_reducible repeat (first | refine blk_drewN ?_ _ | refine blk_drew ?_ | refine blk_alloc ?_ _)); refine blk_put (cs := #[.string (⟨#[]⟩ : ByteArray), .bool false, .int .i64 0, .slice none 0 0]) ?_ 0 _ rfl; (with_reducible repeat (first | refine blk_drewN ?_ _ | refine blk_drew ?_ | refine blk_alloc ?_ _)); exact BK211.out) hb); have n1_ := Aside0.mk (below_step (by repeat (first | (with_reducible first | exact HB.out | apply below_alloc | apply pw_below_drewN | apply below_drew1 | refine below_set ?_ GE211.out) | exact HB.out)) hb); have n2_ := Aside0.mk (hbox); have n3_ := Aside0.mk ((by rw [hg]; exact (below_size (by repeat (first | (with_reducible first | exact HB.out | apply below_alloc | apply pw_below_drewN | apply below_drew1 | refine below_set ?_ GE211.out) | exact HB.out))) : w.heap.size ≤ gb213)); have n4_ := Aside0.mk ((by rw [hg]; exact (below_size (by repeat (first | (with_reducible first | exact HB.out | apply below_alloc | apply pw_below_drewN | apply below_drew1 | refine below_set ?_ GE211.out) | exact HB.out))) : w.heap.size ≤ gb213)); have n5_ := Aside0.mk ((by rw [hg]; exact Nat.ne_of_lt (blk_lt (g := gb211) (o := .cells #[.string ((rd_T24 l0 x5_1).f0), .bool ((rd_T24 l0 x5_1).f1), .int .i64 ((rd_T24 l0 x5_1).f2), .slice A210_3 ((rd_T24 l0 x5_1).f3).length c210_3] 24 (0, 0)) (by (with_reducible repeat (first | refine blk_drewN ?_ _ | refine blk_drew ?_ | refine blk_alloc ?_ _)); refine blk_put (cs := #[.string ((rd_T24 l0 x5_1).f0), .bool ((rd_T24 l0 x5_1).f1), .int .i64 ((rd_T24 l0 x5_1).f2), .slice none 0 0]) ?_ 3 _ rfl; (with_reducible repeat (first | refine blk_drewN ?_ _ | refine blk_drew ?_ | refine blk_alloc ?_ _)); refine blk_put (cs := #[.string ((rd_T24 l0 x5_1).f0), .bool ((rd_T24 l0 x5_1).f1), .int .i64 0, .slice none 0 0]) ?_ 2 _ rfl; (with_reducible repeat (first | refine blk_drewN ?_ _ | refine blk_drew ?_ | refine blk_alloc ?_ _)); refine blk_put (cs := #[.string ((rd_T24 l0 x5_1).f0), .bool false, .int .i64 0, .slice none 0 0]) ?_ 1 _ rfl; (with_reducible repeat (first | refine blk_drewN ?_ _ | refine blk_drew ?_ | refine blk_alloc ?_ _)); refine blk_put (cs := #[.string (⟨#[]⟩ : ByteArray), .bool false, .int .i64 0, .slice none 0 0]) ?_ 0 _ rfl; (with_reducible repeat (first | refine blk_drewN ?_ _ | refine blk_drew ?_ | refine blk_alloc ?_ _)); exact BK211.out)) : gb211 ≠ gb213)); have n6_ := Aside0.mk ((by rw [hg]; exact Nat.ne_of_gt (blk_lt (g := gb211) (o := .cells #[.string ((rd_T24 l0 x5_1).f0), .bool ((rd_T24 l0 x5_1).f1), .int .i64 ((rd_T24 l0 x5_1).f2), .slice A210_3 ((rd_T24 l0 x5_1).f3).length c210_3] 24 (0, 0)) (by (with_reducible repeat (first | refine blk_drewN ?_ _ | refine blk_drew ?_ | refine blk_alloc ?_ _)); refine blk_put (cs := #[.string ((rd_T24 l0 x5_1).f0), .bool ((rd_T24 l0 x5_1).f1), .int .i64 ((rd_T24 l0 x5_1).f2), .slice none 0 0]) ?_ 3 _ rfl; (with_reducible repeat (first | refine blk_drewN ?_ _ | refine blk_drew ?_ | refine blk_alloc ?_ _)); refine blk_put (cs := #[.string ((rd_T24 l0 x5_1).f0), .bool ((rd_T24 l0 x5_1).f1), .int .i64 0, .slice none 0 0]) ?_ 2 _ rfl; (with_reducible repeat (first | refine blk_drewN ?_ _ | refine blk_drew ?_ | refine blk_alloc ?_ _)); refine blk_put (cs := #[.string ((rd_T24 l0 x5_1).f0), .bool false, .int .i64 0, .slice none 0 0]) ?_ 1 _ rfl; (with_reducible repeat (first | refine blk_drewN ?_ _ | refine blk_drew ?_ | refine blk_alloc ?_ _)); refine blk_put (cs := #[.string (⟨#[]⟩ : ByteArray), .bool false, .int .i64 0, .slice none 0 0]) ?_ 0 _ rfl; (with_reducible repeat (first | refine blk_drewN ?_ _ | refine blk_drew ?_ | refine blk_alloc ?_ _)); exact BK211.out)) : gb213 ≠ gb211)); clear BK211; clear HB; have BK211 := n0_; have HB := n1_; have BK213 := n2_; have GW213 := n3_; have GE213 := n4_; have NB211_213 := n5_; have NB213_211 := n6_; clear n0_ n1_ n2_ n3_ n4_ n5_ n6_; clear hb hbox hg; have hnb11 := NB213_211.out; have hnc11 := NB211_213.out; have hcz12_0 : w10.cell? ⟨gb213, 0, none⟩ = some (.string (⟨#[]⟩ : ByteArray)) := (blk_cell BK213.out 0).trans rfl; have hcz12_1 : w10.cell? ⟨gb213, 1, none⟩ = some (.bool false) := (blk_cell BK213.out 1).trans rfl; have hcz12_2 : w10.cell? ⟨gb213, 2, none⟩ = some (.int .i64 0) := (blk_cell BK213.out 2).trans rfl; have hcz12_3 : w10.cell? ⟨gb213, 3, none⟩ = some (.slice none 0 0) := (blk_cell BK213.out 3).trans rfl; have hfz12_0 := blk_frozen BK213.out 0; have hfz12_1 := blk_frozen BK213.out 1; have hfz12_2 := blk_frozen BK213.out 2; have hfz12_3 := blk_frozen BK213.out 3))
       repeat (go_quiet (first | ((with_reducible refine gate_dst (N := 6) rfl ?_); (try (refine gate_guard (by rfl) ?_; dsimp only)); refine box_event ?hg (N := 6) ?hd (cs := #[.string (⟨#[]⟩ : ByteArray), .bool false, .int .i64 0, .slice none 0 0]) (t := 24) ?hr ?_; (case hd => rfl); (case hg => rfl); (case hr => first | (go_simp; done) | (go_simp; rfl)); intro gb211 hg w8 hbox hb; have n0_ := Aside0.mk (below_step (by repeat (first | (with_reducible first | exact HB.out | apply below_alloc | apply pw_below_drewN | apply below_drew1) | exact HB.out)) hb); have n1_ := Aside0.mk (hbox); have n2_ := Aside0.mk ((by rw [hg]; exact (below_size (by repeat (first | (with_reducible first | exact HB.out | apply below_alloc | apply pw_below_drewN | apply below_drew1) | exact HB.out))) : w.heap.size ≤ gb211)); have n3_ := Aside0.mk ((by rw [hg]; exact (below_size (by repeat (first | (with_reducible first | exact HB.out | apply below_alloc | apply pw_below_drewN | apply below_drew1) | exact HB.out))) : w.heap.size ≤ gb211)); clear HB; have HB := n0_; have BK211 := n1_; have GW211 := n2_; have GE211 := n3_; clear n0_ n1_ n2_ n3_; clear hb hbox hg; have hcz9_0 : w8.cell? ⟨gb211, 0, none⟩ = some (.string (⟨#[]⟩ : ByteArray)) := (blk_cell BK211.out 0).trans rfl; have hcz9_1 : w8.cell? ⟨gb211, 1, none⟩ = some (.bool false) := (blk_cell BK211.out 1).trans rfl; have hcz9_2 : w8.cell? ⟨gb211, 2, none⟩ = some (.int .i64 0) := (blk_cell BK211.out 2).trans rfl; have hcz9_3 : w8.cell? ⟨gb211, 3, none⟩ = some (.slice none 0 0) := (blk_cell BK211.out 3).trans rfl; have hfz9_0 := blk_frozen BK211.out 0; have hfz9_1 := blk_frozen BK211.out 1; have hfz9_2 := blk_frozen BK211.out 2; have hfz9_3 := blk_frozen BK211.out 3; have p212 : 0 ≤ (x5_1 : Int) := of_decide_eq_true (by first | (with_reducible assumption) | assumption); have q212 : x5_1 < (l1.length : Int) := of_decide_eq_true (by first | (with_reducible assumption) | assumption); obtain ⟨ad212, A212_3, c212_3, e212, hx212_0, hx212_1, hx212_2, hx212_3, hl212_3, hi212_3⟩ := at_T24 HR1.out x5_1 p212 q212; cases e212; have hn212_0 : ad212.block ≠ gb211 := Nat.ne_of_lt (Nat.lt_of_lt_of_le (by have := World.block_lt_of_cell? _ _ hx212_0; first | rwa [add_block] at this | exact this) GW211.out); have hn212_1 : ad212.block ≠ gb211 := Nat.ne_of_lt (Nat.lt_of_lt_of_le (by have := World.block_lt_of_cell? _ _ hx212_0; first | rwa [add_block] at this | exact this) GW211.out); have hn212_2 : ad212.block ≠ gb211 := Nat.ne_of_lt (Nat.lt_of_lt_of_le (by have := World.block_lt_of_cell? _ _ hx212_0; first | rwa [add_block] at this | exact this) GW211.out); have hn212_3 : ad212.block ≠ gb211 := Nat.ne_of_lt (Nat.lt_of_lt_of_le (by have := World.block_lt_of_cell? _ _ hx212_0; first | rwa [add_block] at this | exact this) GW211.out); replace hx212_0 := (HB.out.cell (World.block_lt_of_cell? w _ hx212_0)).trans hx212_0; replace hx212_1 := (HB.out.cell (World.block_lt_of_cell? w _ hx212_1)).trans hx212_1; replace hx212_2 := (HB.out.cell (World.block_lt_of_cell? w _ hx212_2)).trans hx212_2; replace hx212_3 := (HB.out.cell (World.block_lt_of_cell? w _ hx212_3)).trans hx212_3; have HR212_3 := Aside0.mk hi212_3; have HC212_3 := Aside0.mk hl212_3; clear hi212_3 hl212_3; replace hx212_0 := (cell_far (p := ⟨gb211, 0, none⟩) (by first | (rw [add_block]; exact hn212_0) | (show (Addr.add _ _).block ≠ _; rw [add_block]; exact hn212_0) | exact hn212_0) (.string ((rd_T24 l0 x5_1).f0))).trans hx212_0; replace hx212_1 := (cell_far (p := ⟨gb211, 0, none⟩) (by first | (rw [add_block]; exact hn212_0) | (show (Addr.add _ _).block ≠ _; rw [add_block]; exact hn212_0) | exact hn212_0) (.string ((rd_T24 l0 x5_1).f0))).trans hx212_1; replace hx212_2 := (cell_far (p := ⟨gb211, 0, none⟩) (by first | (rw [add_block]; exact hn212_0) | (show (Addr.add _ _).block ≠ _; rw [add_block]; exact hn212_0) | exact hn212_0) (.string ((rd_T24 l0 x5_1).f0))).trans hx212_2; replace hx212_3 := (cell_far (p := ⟨gb211, 0, none⟩) (by first | (rw [add_block]; exact hn212_0) | (show (Addr.add _ _).block ≠ _; rw [add_block]; exact hn212_0) | exact hn212_0) (.string ((rd_T24 l0 x5_1).f0))).trans hx212_3; replace hx212_0 := (cell_far (p := ⟨gb211, 1, none⟩) (by first | (rw [add_block]; exact hn212_1) | (show (Addr.add _ _).block ≠ _; rw [add_block]; exact hn212_1) | exact hn212_1) (.bool ((rd_T24 l0 x5_1).f1))).trans hx212_0; replace hx212_1 := (cell_far (p := ⟨gb211, 1, none⟩) (by first | (rw [add_block]; exact hn212_1) | (show (Addr.add _ _).block ≠ _; rw [add_block]; exact hn212_1) | exact hn212_1) (.bool ((rd_T24 l0 x5_1).f1))).trans hx212_1; replace hx212_2 := (cell_far (p := ⟨gb211, 1, none⟩) (by first | (rw [add_block]; exact hn212_1) | (show (Addr.add _ _).block ≠ _; rw [add_block]; exact hn212_1) | exact hn212_1) (.bool ((rd_T24 l0 x5_1).f1))).trans hx212_2; replace hx212_3 := (cell_far (p := ⟨gb211, 1, none⟩) (by first | (rw [add_block]; exact hn212_1) | (show (Addr.add _ _).block ≠ _; rw [add_block]; exact hn212_1) | exact hn212_1) (.bool ((rd_T24 l0 x5_1).f1))).trans hx212_3; replace hx212_0 := (cell_far (p := ⟨gb211, 2, none⟩) (by first | (rw [add_block]; exact hn212_2) | (show (Addr.add _ _).block ≠ _; rw [add_block]; exact hn212_2) | exact hn212_2) (.int .i64 ((rd_T24 l0 x5_1).f2))).trans hx212_0; replace hx212_1 := (cell_far (p := ⟨gb211, 2, none⟩) (by first | (rw [add_block]; exact hn212_2) | (show (Addr.add _ _).block ≠ _; rw [add_block]; exact hn212_2) | exact hn212_2) (.int .i64 ((rd_T24 l0 x5_1).f2))).trans hx212_1; replace hx212_2 := (cell_far (p := ⟨gb211, 2, none⟩) (by first | (rw [add_block]; exact hn212_2) | (show (Addr.add _ _).block ≠ _; rw [add_block]; exact hn212_2) | exact hn212_2) (.int .i64 ((rd_T24 l0 x5_1).f2))).trans hx212_2; replace hx212_3 := (cell_far (p := ⟨gb211, 2, none⟩) (by first | (rw [add_block]; exact hn212_2) | (show (Addr.add _ _).block ≠ _; rw [add_block]; exact hn212_2) | exact hn212_2) (.int .i64 ((rd_T24 l0 x5_1).f2))).trans hx212_3; replace hx212_0 := (cell_far (p := ⟨gb211, 3, none⟩) (by first | (rw [add_block]; exact hn212_3) | (show (Addr.add _ _).block ≠ _; rw [add_block]; exact hn212_3) | exact hn212_3) (.slice A210_3 ((rd_T24 l0 x5_1).f3).length c210_3)).trans hx212_0; replace hx212_1 := (cell_far (p := ⟨gb211, 3, none⟩) (by first | (rw [add_block]; exact hn212_3) | (show (Addr.add _ _).block ≠ _; rw [add_block]; exact hn212_3) | exact hn212_3) (.slice A210_3 ((rd_T24 l0 x5_1).f3).length c210_3)).trans hx212_1; replace hx212_2 := (cell_far (p := ⟨gb211, 3, none⟩) (by first | (rw [add_block]; exact hn212_3) | (show (Addr.add _ _).block ≠ _; rw [add_block]; exact hn212_3) | exact hn212_3) (.slice A210_3 ((rd_T24 l0 x5_1).f3).length c210_3)).trans hx212_2; replace hx212_3 := (cell_far (p := ⟨gb211, 3, none⟩) (by first | (rw [add_block]; exact hn212_3) | (show (Addr.add _ _).block ≠ _; rw [add_block]; exact hn212_3) | exact hn212_3) (.slice A210_3 ((rd_T24 l0 x5_1).f3).length c210_3)).trans hx212_3; (try have hy212_0 := fun (n_ : Nat) => (show ((((((w8.drewN n_).setCell ⟨gb211, 0, none⟩ (.string ((rd_T24 l0 x5_1).f0))).setCell ⟨gb211, 1, none⟩ (.bool ((rd_T24 l0 x5_1).f1))).setCell ⟨gb211, 2, none⟩ (.int .i64 ((rd_T24 l0 x5_1).f2))).setCell ⟨gb211, 3, none⟩ (.slice A210_3 ((rd_T24 l0 x5_1).f3).length c210_3))).cell? _ = some _ from hx212_0)); (try have hy212_1 := fun (n_ : Nat) => (show ((((((w8.drewN n_).setCell ⟨gb211, 0, none⟩ (.string ((rd_T24 l0 x5_1).f0))).setCell ⟨gb211, 1, none⟩ (.bool ((rd_T24 l0 x5_1).f1))).setCell ⟨gb211, 2, none⟩ (.int .i64 ((rd_T24 l0 x5_1).f2))).setCell ⟨gb211, 3, none⟩ (.slice A210_3 ((rd_T24 l0 x5_1).f3).length c210_3))).cell? _ = some _ from hx212_1)); (try have hy212_2 := fun (n_ : Nat) => (show ((((((w8.drewN n_).setCell ⟨gb211, 0, none⟩ (.string ((rd_T24 l0 x5_1).f0))).setCell ⟨gb211, 1, none⟩ (.bool ((rd_T24 l0 x5_1).f1))).setCell ⟨gb211, 2, none⟩ (.int .i64 ((rd_T24 l0 x5_1).f2))).setCell ⟨gb211, 3, none⟩ (.slice A210_3 ((rd_T24 l0 x5_1).f3).length c210_3))).cell? _ = some _ from hx212_2)); (try have hy212_3 := fun (n_ : Nat) => (show ((((((w8.drewN n_).setCell ⟨gb211, 0, none⟩ (.string ((rd_T24 l0 x5_1).f0))).setCell ⟨gb211, 1, none⟩ (.bool ((rd_T24 l0 x5_1).f1))).setCell ⟨gb211, 2, none⟩ (.int .i64 ((rd_T24 l0 x5_1).f2))).setCell ⟨gb211, 3, none⟩ (.slice A210_3 ((rd_T24 l0 x5_1).f3).length c210_3))).cell? _ = some _ from hx212_3)); clear hn212_0; clear hn212_1; clear hn212_2; clear hn212_3; replace p212 := eq_true p212; replace q212 := eq_true q212) | ((with_reducible refine gate_dst (N := 7) rfl ?_); (try (refine gate_guard (by rfl) ?_; dsimp only)); refine box_event ?hg (N := 7) ?hd (cs := #[.string (⟨#[]⟩ : ByteArray), .bool false, .int .i64 0, .slice none 0 0]) (t := 24) ?hr ?_; (case hd => rfl); (case hg => rfl); (case hr => first | (go_simp; done) | (go_simp; rfl)); intro gb213 hg w10 hbox hb; have n0_ := Aside0.mk (blk_below (g := gb211) (o := .cells #[.string ((rd_T24 l0 x5_1).f0), .bool ((rd_T24 l0 x5_1).f1), .int .i64 ((rd_T24 l0 x5_1).f2), .slice A210_3 ((rd_T24 l0 x5_1).f3).length c210_3] 24 (0, 0)) (by (with_reducible repeat (first | refine blk_drewN ?_ _ | refine blk_drew ?_ | refine blk_alloc ?_ _)); refine blk_put (cs := #[.string ((rd_T24 l0 x5_1).f0), .bool ((rd_T24 l0 x5_1).f1), .int .i64 ((rd_T24 l0 x5_1).f2), .slice none 0 0]) ?_ 3 _ rfl; (with_reducible repeat (first | refine blk_drewN ?_ _ | refine blk_drew ?_ | refine blk_alloc ?_ _)); refine blk_put (cs := #[.string ((rd_T24 l0 x5_1).f0), .bool ((rd_T24 l0 x5_1).f1), .int .i64 0, .slice none 0 0]) ?_ 2 _ rfl; (with_reducible repeat (first | refine blk_drewN ?_ _ | refine blk_drew ?_ | refine blk_alloc ?_ _)); refine blk_put (cs := #[.string ((rd_T24 l0 x5_1).f0), .bool false, .int .i64 0, .slice none 0 0]) ?_ 1 _ rfl; (with_reducible repeat (first | refine blk_drewN ?_ _ | refine blk_drew ?_ | refine blk_alloc ?_ _)); refine blk_put (cs := #[.string (⟨#[]⟩ : ByteArray), .bool false, .int .i64 0, .slice none 0 0]) ?_ 0 _ rfl; (with_reducible repeat (first | refine blk_drewN ?_ _ | refine blk_drew ?_ | refine blk_alloc ?_ _)); exact BK211.out) hb); have n1_ := Aside0.mk (below_step (by repeat (first | (with_reducible first | exact HB.out | apply below_alloc | apply pw_below_drewN | apply below_drew1 | refine below_set ?_ GE211.out) | exact HB.out)) hb); have n2_ := Aside0.mk (hbox); have n3_ := Aside0.mk ((by rw [hg]; exact (below_size (by repeat (first | (with_reducible first | exact HB.out | apply below_alloc | apply pw_below_drewN | apply below_drew1 | refine below_set ?_ GE211.out) | exact HB.out))) : w.heap.size ≤ gb213)); have n4_ := Aside0.mk ((by rw [hg]; exact (below_size (by repeat (first | (with_reducible first | exact HB.out | apply below_alloc | apply pw_below_drewN | apply below_drew1 | refine below_set ?_ GE211.out) | exact HB.out))) : w.heap.size ≤ gb213)); have n5_ := Aside0.mk ((by rw [hg]; exact Nat.ne_of_lt (blk_lt (g := gb211) (o := .cells #[.string ((rd_T24 l0 x5_1).f0), .bool ((rd_T24 l0 x5_1).f1), .int .i64 ((rd_T24 l0 x5_1).f2), .slice A210_3 ((rd_T24 l0 x5_1).f3).length c210_3] 24 (0, 0)) (by (with_reducible repeat (first | refine blk_drewN ?_ _ | refine blk_drew ?_ | refine blk_alloc ?_ _)); refine blk_put (cs := #[.string ((rd_T24 l0 x5_1).f0), .bool ((rd_T24 l0 x5_1).f1), .int .i64 ((rd_T24 l0 x5_1).f2), .slice none 0 0]) ?_ 3 _ rfl; (with_reducible repeat (first | refine blk_drewN ?_ _ | refine blk_drew ?_ | refine blk_alloc ?_ _)); refine blk_put (cs := #[.string ((rd_T24 l0 x5_1).f0), .bool ((rd_T24 l0 x5_1).f1), .int .i64 0, .slice none 0 0]) ?_ 2 _ rfl; (with_reducible repeat (first | refine blk_drewN ?_ _ | refine blk_drew ?_ | refine blk_alloc ?_ _)); refine blk_put (cs := #[.string ((rd_T24 l0 x5_1).f0), .bool false, .int .i64 0, .slice none 0 0]) ?_ 1 _ rfl; (with_reducible repeat (first | refine blk_drewN ?_ _ | refine blk_drew ?_ | refine blk_alloc ?_ _)); refine blk_put (cs := #[.string (⟨#[]⟩ : ByteArray), .bool false, .int .i64 0, .slice none 0 0]) ?_ 0 _ rfl; (with_reducible repeat (first | refine blk_drewN ?_ _ | refine blk_drew ?_ | refine blk_alloc ?_ _)); exact BK211.out)) : gb211 ≠ gb213)); have n6_ := Aside0.mk ((by rw [hg]; exact Nat.ne_of_gt (blk_lt (g := gb211) (o := .cells #[.string ((rd_T24 l0 x5_1).f0), .bool ((rd_T24 l0 x5_1).f1), .int .i64 ((rd_T24 l0 x5_1).f2), .slice A210_3 ((rd_T24 l0 x5_1).f3).length c210_3] 24 (0, 0)) (by (with_reducible repeat (first | refine blk_drewN ?_ _ | refine blk_drew ?_ | refine blk_alloc ?_ _)); refine blk_put (cs := #[.string ((rd_T24 l0 x5_1).f0), .bool ((rd_T24 l0 x5_1).f1), .int .i64 ((rd_T24 l0 x5_1).f2), .slice none 0 0]) ?_ 3 _ rfl; (with_reducible repeat (first | refine blk_drewN ?_ _ | refine blk_drew ?_ | refine blk_alloc ?_ _)); refine blk_put (cs := #[.string ((rd_T24 l0 x5_1).f0), .bool ((rd_T24 l0 x5_1).f1), .int .i64 0, .slice none 0 0]) ?_ 2 _ rfl; (with_reducible repeat (first | refine blk_drewN ?_ _ | refine blk_drew ?_ | refine blk_alloc ?_ _)); refine blk_put (cs := #[.string ((rd_T24 l0 x5_1).f0), .bool false, .int .i64 0, .slice none 0 0]) ?_ 1 _ rfl; (with_reducible repeat (first | refine blk_drewN ?_ _ | refine blk_drew ?_ | refine blk_alloc ?_ _)); refine blk_put (cs := #[.string (⟨#[]⟩ : ByteArray), .bool false, .int .i64 0, .slice none 0 0]) ?_ 0 _ rfl; (with_reducible repeat (first | refine blk_drewN ?_ _ | refine blk_drew ?_ | refine blk_alloc ?_ _)); exact BK211.out)) : gb213 ≠ gb211)); clear BK211; clear HB; have BK211 := n0_; have HB := n1_; have BK213 := n2_; have GW213 := n3_; have GE213 := n4_; have NB211_213 := n5_; have NB213_211 := n6_; clear n0_ n1_ n2_ n3_ n4_ n5_ n6_; clear hb hbox hg; have hnb11 := NB213_211.out; have hnc11 := NB211_213.out; have hcz12_0 : w10.cell? ⟨gb213, 0, none⟩ = some (.string (⟨#[]⟩ : ByteArray)) := (blk_cell BK213.out 0).trans rfl; have hcz12_1 : w10.cell? ⟨gb213, 1, none⟩ = some (.bool false) := (blk_cell BK213.out 1).trans rfl; have hcz12_2 : w10.cell? ⟨gb213, 2, none⟩ = some (.int .i64 0) := (blk_cell BK213.out 2).trans rfl; have hcz12_3 : w10.cell? ⟨gb213, 3, none⟩ = some (.slice none 0 0) := (blk_cell BK213.out 3).trans rfl; have hfz12_0 := blk_frozen BK213.out 0; have hfz12_1 := blk_frozen BK213.out 1; have hfz12_2 := blk_frozen BK213.out 2; have hfz12_3 := blk_frozen BK213.out 3)); go_upto_region 8 with (first | ((with_reducible refine gate_dst (N := 6) rfl ?_); (try (refine gate_guard (by rfl) ?_; dsimp only)); refine box_event ?hg (N := 6) ?hd (cs := #[.string (⟨#[]⟩ : ByteArray), .bool false, .int .i64 0, .slice none 0 0]) (t := 24) ?hr ?_; (case hd => rfl); (case hg => rfl); (case hr => first | (go_simp; done) | (go_simp; rfl)); intro gb211 hg w8 hbox hb; have n0_ := Aside0.mk (below_step (by repeat (first | (with_reducible first | exact HB.out | apply below_alloc | apply pw_below_drewN | apply below_drew1) | exact HB.out)) hb); have n1_ := Aside0.mk (hbox); have n2_ := Aside0.mk ((by rw [hg]; exact (below_size (by repeat (first | (with_reducible first | exact HB.out | apply below_alloc | apply pw_below_drewN | apply below_drew1) | exact HB.out))) : w.heap.size ≤ gb211)); have n3_ := Aside0.mk ((by rw [hg]; exact (below_size (by repeat (first | (with_reducible first | exact HB.out | apply below_alloc | apply pw_below_drewN | apply below_drew1) | exact HB.out))) : w.heap.size ≤ gb211)); clear HB; have HB := n0_; have BK211 := n1_; have GW211 := n2_; have GE211 := n3_; clear n0_ n1_ n2_ n3_; clear hb hbox hg; have hcz9_0 : w8.cell? ⟨gb211, 0, none⟩ = some (.string (⟨#[]⟩ : ByteArray)) := (blk_cell BK211.out 0).trans rfl; have hcz9_1 : w8.cell? ⟨gb211, 1, none⟩ = some (.bool false) := (blk_cell BK211.out 1).trans rfl; have hcz9_2 : w8.cell? ⟨gb211, 2, none⟩ = some (.int .i64 0) := (blk_cell BK211.out 2).trans rfl; have hcz9_3 : w8.cell? ⟨gb211, 3, none⟩ = some (.slice none 0 0) := (blk_cell BK211.out 3).trans rfl; have hfz9_0 := blk_frozen BK211.out 0; have hfz9_1 := blk_frozen BK211.out 1; have hfz9_2 := blk_frozen BK211.out 2; have hfz9_3 := blk_frozen BK211.out 3; have p212 : 0 ≤ (x5_1 : Int) := of_decide_eq_true (by first | (with_reducible assumption) | assumption); have q212 : x5_1 < (l1.length : Int) := of_decide_eq_true (by first | (with_reducible assumption) | assumption); obtain ⟨ad212, A212_3, c212_3, e212, hx212_0, hx212_1, hx212_2, hx212_3, hl212_3, hi212_3⟩ := at_T24 HR1.out x5_1 p212 q212; cases e212; have hn212_0 : ad212.block ≠ gb211 := Nat.ne_of_lt (Nat.lt_of_lt_of_le (by have := World.block_lt_of_cell? _ _ hx212_0; first | rwa [add_block] at this | exact this) GW211.out); have hn212_1 : ad212.block ≠ gb211 := Nat.ne_of_lt (Nat.lt_of_lt_of_le (by have := World.block_lt_of_cell? _ _ hx212_0; first | rwa [add_block] at this | exact this) GW211.out); have hn212_2 : ad212.block ≠ gb211 := Nat.ne_of_lt (Nat.lt_of_lt_of_le (by have := World.block_lt_of_cell? _ _ hx212_0; first | rwa [add_block] at this | exact this) GW211.out); have hn212_3 : ad212.block ≠ gb211 := Nat.ne_of_lt (Nat.lt_of_lt_of_le (by have := World.block_lt_of_cell? _ _ hx212_0; first | rwa [add_block] at this | exact this) GW211.out); replace hx212_0 := (HB.out.cell (World.block_lt_of_cell? w _ hx212_0)).trans hx212_0; replace hx212_1 := (HB.out.cell (World.block_lt_of_cell? w _ hx212_1)).trans hx212_1; replace hx212_2 := (HB.out.cell (World.block_lt_of_cell? w _ hx212_2)).trans hx212_2; replace hx212_3 := (HB.out.cell (World.block_lt_of_cell? w _ hx212_3)).trans hx212_3; have HR212_3 := Aside0.mk hi212_3; have HC212_3 := Aside0.mk hl212_3; clear hi212_3 hl212_3; replace hx212_0 := (cell_far (p := ⟨gb211, 0, none⟩) (by first | (rw [add_block]; exact hn212_0) | (show (Addr.add _ _).block ≠ _; rw [add_block]; exact hn212_0) | exact hn212_0) (.string ((rd_T24 l0 x5_1).f0))).trans hx212_0; replace hx212_1 := (cell_far (p := ⟨gb211, 0, none⟩) (by first | (rw [add_block]; exact hn212_0) | (show (Addr.add _ _).block ≠ _; rw [add_block]; exact hn212_0) | exact hn212_0) (.string ((rd_T24 l0 x5_1).f0))).trans hx212_1; replace hx212_2 := (cell_far (p := ⟨gb211, 0, none⟩) (by first | (rw [add_block]; exact hn212_0) | (show (Addr.add _ _).block ≠ _; rw [add_block]; exact hn212_0) | exact hn212_0) (.string ((rd_T24 l0 x5_1).f0))).trans hx212_2; replace hx212_3 := (cell_far (p := ⟨gb211, 0, none⟩) (by first | (rw [add_block]; exact hn212_0) | (show (Addr.add _ _).block ≠ _; rw [add_block]; exact hn212_0) | exact hn212_0) (.string ((rd_T24 l0 x5_1).f0))).trans hx212_3; replace hx212_0 := (cell_far (p := ⟨gb211, 1, none⟩) (by first | (rw [add_block]; exact hn212_1) | (show (Addr.add _ _).block ≠ _; rw [add_block]; exact hn212_1) | exact hn212_1) (.bool ((rd_T24 l0 x5_1).f1))).trans hx212_0; replace hx212_1 := (cell_far (p := ⟨gb211, 1, none⟩) (by first | (rw [add_block]; exact hn212_1) | (show (Addr.add _ _).block ≠ _; rw [add_block]; exact hn212_1) | exact hn212_1) (.bool ((rd_T24 l0 x5_1).f1))).trans hx212_1; replace hx212_2 := (cell_far (p := ⟨gb211, 1, none⟩) (by first | (rw [add_block]; exact hn212_1) | (show (Addr.add _ _).block ≠ _; rw [add_block]; exact hn212_1) | exact hn212_1) (.bool ((rd_T24 l0 x5_1).f1))).trans hx212_2; replace hx212_3 := (cell_far (p := ⟨gb211, 1, none⟩) (by first | (rw [add_block]; exact hn212_1) | (show (Addr.add _ _).block ≠ _; rw [add_block]; exact hn212_1) | exact hn212_1) (.bool ((rd_T24 l0 x5_1).f1))).trans hx212_3; replace hx212_0 := (cell_far (p := ⟨gb211, 2, none⟩) (by first | (rw [add_block]; exact hn212_2) | (show (Addr.add _ _).block ≠ _; rw [add_block]; exact hn212_2) | exact hn212_2) (.int .i64 ((rd_T24 l0 x5_1).f2))).trans hx212_0; replace hx212_1 := (cell_far (p := ⟨gb211, 2, none⟩) (by first | (rw [add_block]; exact hn212_2) | (show (Addr.add _ _).block ≠ _; rw [add_block]; exact hn212_2) | exact hn212_2) (.int .i64 ((rd_T24 l0 x5_1).f2))).trans hx212_1; replace hx212_2 := (cell_far (p := ⟨gb211, 2, none⟩) (by first | (rw [add_block]; exact hn212_2) | (show (Addr.add _ _).block ≠ _; rw [add_block]; exact hn212_2) | exact hn212_2) (.int .i64 ((rd_T24 l0 x5_1).f2))).trans hx212_2; replace hx212_3 := (cell_far (p := ⟨gb211, 2, none⟩) (by first | (rw [add_block]; exact hn212_2) | (show (Addr.add _ _).block ≠ _; rw [add_block]; exact hn212_2) | exact hn212_2) (.int .i64 ((rd_T24 l0 x5_1).f2))).trans hx212_3; replace hx212_0 := (cell_far (p := ⟨gb211, 3, none⟩) (by first | (rw [add_block]; exact hn212_3) | (show (Addr.add _ _).block ≠ _; rw [add_block]; exact hn212_3) | exact hn212_3) (.slice A210_3 ((rd_T24 l0 x5_1).f3).length c210_3)).trans hx212_0; replace hx212_1 := (cell_far (p := ⟨gb211, 3, none⟩) (by first | (rw [add_block]; exact hn212_3) | (show (Addr.add _ _).block ≠ _; rw [add_block]; exact hn212_3) | exact hn212_3) (.slice A210_3 ((rd_T24 l0 x5_1).f3).length c210_3)).trans hx212_1; replace hx212_2 := (cell_far (p := ⟨gb211, 3, none⟩) (by first | (rw [add_block]; exact hn212_3) | (show (Addr.add _ _).block ≠ _; rw [add_block]; exact hn212_3) | exact hn212_3) (.slice A210_3 ((rd_T24 l0 x5_1).f3).length c210_3)).trans hx212_2; replace hx212_3 := (cell_far (p := ⟨gb211, 3, none⟩) (by first | (rw [add_block]; exact hn212_3) | (show (Addr.add _ _).block ≠ _; rw [add_block]; exact hn212_3) | exact hn212_3) (.slice A210_3 ((rd_T24 l0 x5_1).f3).length c210_3)).trans hx212_3; (try have hy212_0 := fun (n_ : Nat) => (show ((((((w8.drewN n_).setCell ⟨gb211, 0, none⟩ (.string ((rd_T24 l0 x5_1).f0))).setCell ⟨gb211, 1, none⟩ (.bool ((rd_T24 l0 x5_1).f1))).setCell ⟨gb211, 2, none⟩ (.int .i64 ((rd_T24 l0 x5_1).f2))).setCell ⟨gb211, 3, none⟩ (.slice A210_3 ((rd_T24 l0 x5_1).f3).length c210_3))).cell? _ = some _ from hx212_0)); (try have hy212_1 := fun (n_ : Nat) => (show ((((((w8.drewN n_).setCell ⟨gb211, 0, none⟩ (.string ((rd_T24 l0 x5_1).f0))).setCell ⟨gb211, 1, none⟩ (.bool ((rd_T24 l0 x5_1).f1))).setCell ⟨gb211, 2, none⟩ (.int .i64 ((rd_T24 l0 x5_1).f2))).setCell ⟨gb211, 3, none⟩ (.slice A210_3 ((rd_T24 l0 x5_1).f3).length c210_3))).cell? _ = some _ from hx212_1)); (try have hy212_2 := fun (n_ : Nat) => (show ((((((w8.drewN n_).setCell ⟨gb211, 0, none⟩ (.string ((rd_T24 l0 x5_1).f0))).setCell ⟨gb211, 1, none⟩ (.bool ((rd_T24 l0 x5_1).f1))).setCell ⟨gb211, 2, none⟩ (.int .i64 ((rd_T24 l0 x5_1).f2))).setCell ⟨gb211, 3, none⟩ (.slice A210_3 ((rd_T24 l0 x5_1).f3).length c210_3))).cell? _ = some _ from hx212_2)); (try have hy212_3 := fun (n_ : Nat) => (show ((((((w8.drewN n_).setCell ⟨gb211, 0, none⟩ (.string ((rd_T24 l0 x5_1).f0))).setCell ⟨gb211, 1, none⟩ (.bool ((rd_T24 l0 x5_1).f1))).setCell ⟨gb211, 2, none⟩ (.int .i64 ((rd_T24 l0 x5_1).f2))).setCell ⟨gb211, 3, none⟩ (.slice A210_3 ((rd_T24 l0 x5_1).f3).length c210_3))).cell? _ = some _ from hx212_3)); clear hn212_0; clear hn212_1; clear hn212_2; clear hn212_3; replace p212 := eq_true p212; replace q212 := eq_true q212) | ((with_reducible refine gate_dst (N := 7) rfl ?_); (try (refine gate_guard (by rfl) ?_; dsimp only)); refine box_event ?hg (N := 7) ?hd (cs := #[.string (⟨#[]⟩ : ByteArray), .bool false, .int .i64 0, .slice none 0 0]) (t := 24) ?hr ?_; (case hd => rfl); (case hg => rfl); (case hr => first | (go_simp; done) | (go_simp; rfl)); intro gb213 hg w10 hbox hb; have n0_ := Aside0.mk (blk_below (g := gb211) (o := .cells #[.string ((rd_T24 l0 x5_1).f0), .bool ((rd_T24 l0 x5_1).f1), .int .i64 ((rd_T24 l0 x5_1).f2), .slice A210_3 ((rd_T24 l0 x5_1).f3).length c210_3] 24 (0, 0)) (by (with_reducible repeat (first | refine blk_drewN ?_ _ | refine blk_drew ?_ | refine blk_alloc ?_ _)); refine blk_put (cs := #[.string ((rd_T24 l0 x5_1).f0), .bool ((rd_T24 l0 x5_1).f1), .int .i64 ((rd_T24 l0 x5_1).f2), .slice none 0 0]) ?_ 3 _ rfl; (with_reducible repeat (first | refine blk_drewN ?_ _ | refine blk_drew ?_ | refine blk_alloc ?_ _)); refine blk_put (cs := #[.string ((rd_T24 l0 x5_1).f0), .bool ((rd_T24 l0 x5_1).f1), .int .i64 0, .slice none 0 0]) ?_ 2 _ rfl; (with_reducible repeat (first | refine blk_drewN ?_ _ | refine blk_drew ?_ | refine blk_alloc ?_ _)); refine blk_put (cs := #[.string ((rd_T24 l0 x5_1).f0), .bool false, .int .i64 0, .slice none 0 0]) ?_ 1 _ rfl; (with_reducible repeat (first | refine blk_drewN ?_ _ | refine blk_drew ?_ | refine blk_alloc ?_ _)); refine blk_put (cs := #[.string (⟨#[]⟩ : ByteArray), .bool false, .int .i64 0, .slice none 0 0]) ?_ 0 _ rfl; (with_reducible repeat (first | refine blk_drewN ?_ _ | refine blk_drew ?_ | refine blk_alloc ?_ _)); exact BK211.out) hb); have n1_ := Aside0.mk (below_step (by repeat (first | (with_reducible first | exact HB.out | apply below_alloc | apply pw_below_drewN | apply below_drew1 | refine below_set ?_ GE211.out) | exact HB.out)) hb); have n2_ := Aside0.mk (hbox); have n3_ := Aside0.mk ((by rw [hg]; exact (below_size (by repeat (first | (with_reducible first | exact HB.out | apply below_alloc | apply pw_below_drewN | apply below_drew1 | refine below_set ?_ GE211.out) | exact HB.out))) : w.heap.size ≤ gb213)); have n4_ := Aside0.mk ((by rw [hg]; exact (below_size (by repeat (first | (with_reducible first | exact HB.out | apply below_alloc | apply pw_below_drewN | apply below_drew1 | refine below_set ?_ GE211.out) | exact HB.out))) : w.heap.size ≤ gb213)); have n5_ := Aside0.mk ((by rw [hg]; exact Nat.ne_of_lt (blk_lt (g := gb211) (o := .cells #[.string ((rd_T24 l0 x5_1).f0), .bool ((rd_T24 l0 x5_1).f1), .int .i64 ((rd_T24 l0 x5_1).f2), .slice A210_3 ((rd_T24 l0 x5_1).f3).length c210_3] 24 (0, 0)) (by (with_reducible repeat (first | refine blk_drewN ?_ _ | refine blk_drew ?_ | refine blk_alloc ?_ _)); refine blk_put (cs := #[.string ((rd_T24 l0 x5_1).f0), .bool ((rd_T24 l0 x5_1).f1), .int .i64 ((rd_T24 l0 x5_1).f2), .slice none 0 0]) ?_ 3 _ rfl; (with_reducible repeat (first | refine blk_drewN ?_ _ | refine blk_drew ?_ | refine blk_alloc ?_ _)); refine blk_put (cs := #[.string ((rd_T24 l0 x5_1).f0), .bool ((rd_T24 l0 x5_1).f1), .int .i64 0, .slice none 0 0]) ?_ 2 _ rfl; (with_reducible repeat (first | refine blk_drewN ?_ _ | refine blk_drew ?_ | refine blk_alloc ?_ _)); refine blk_put (cs := #[.string ((rd_T24 l0 x5_1).f0), .bool false, .int .i64 0, .slice none 0 0]) ?_ 1 _ rfl; (with_reducible repeat (first | refine blk_drewN ?_ _ | refine blk_drew ?_ | refine blk_alloc ?_ _)); refine blk_put (cs := #[.string (⟨#[]⟩ : ByteArray), .bool false, .int .i64 0, .slice none 0 0]) ?_ 0 _ rfl; (with_reducible repeat (first | refine blk_drewN ?_ _ | refine blk_drew ?_ | refine blk_alloc ?_ _)); exact BK211.out)) : gb211 ≠ gb213)); have n6_ := Aside0.mk ((by rw [hg]; exact Nat.ne_of_gt (blk_lt (g := gb211) (o := .cells #[.string ((rd_T24 l0 x5_1).f0), .bool ((rd_T24 l0 x5_1).f1), .int .i64 ((rd_T24 l0 x5_1).f2), .slice A210_3 ((rd_T24 l0 x5_1).f3).length c210_3] 24 (0, 0)) (by (with_reducible repeat (first | refine blk_drewN ?_ _ | refine blk_drew ?_ | refine blk_alloc ?_ _)); refine blk_put (cs := #[.string ((rd_T24 l0 x5_1).f0), .bool ((rd_T24 l0 x5_1).f1), .int .i64 ((rd_T24 l0 x5_1).f2), .slice none 0 0]) ?_ 3 _ rfl; (with_reducible repeat (first | refine blk_drewN ?_ _ | refine blk_drew ?_ | refine blk_alloc ?_ _)); refine blk_put (cs := #[.string ((rd_T24 l0 x5_1).f0), .bool ((rd_T24 l0 x5_1).f1), .int .i64 0, .slice none 0 0]) ?_ 2 _ rfl; (with_reducible repeat (first | refine blk_drewN ?_ _ | refine blk_drew ?_ | refine blk_alloc ?_ _)); refine blk_put (cs := #[.string ((rd_T24 l0 x5_1).f0), .bool false, .int .i64 0, .slice none 0 0]) ?_ 1 _ rfl; (with_reducible repeat (first | refine blk_drewN ?_ _ | refine blk_drew ?_ | refine blk_alloc ?_ _)); refine blk_put (cs := #[.string (⟨#[]⟩ : ByteArray), .bool false, .int .i64 0, .slice none 0 0]) ?_ 0 _ rfl; (with_reducible repeat (first | refine blk_drewN ?_ _ | refine blk_drew ?_ | refine blk_alloc ?_ _)); exact BK211.out)) : gb213 ≠ gb211)); clear BK211; clear HB; have BK211 := n0_; have HB := n1_; have BK213 := n2_; have GW213 := n3_; have GE213 := n4_; have NB211_213 := n5_; have NB213_211 := n6_; clear n0_ n1_ n2_ n3_ n4_ n5_ n6_; clear hb hbox hg; have hnb11 := NB213_211.out; have hnc11 := NB211_213.out; have hcz12_0 : w10.cell? ⟨gb213, 0, none⟩ = some (.string (⟨#[]⟩ : ByteArray)) := (blk_cell BK213.out 0).trans rfl; have hcz12_1 : w10.cell? ⟨gb213, 1, none⟩ = some (.bool false) := (blk_cell BK213.out 1).trans rfl; have hcz12_2 : w10.cell? ⟨gb213, 2, none⟩ = some (.int .i64 0) := (blk_cell BK213.out 2).trans rfl; have hcz12_3 : w10.cell? ⟨gb213, 3, none⟩ = some (.slice none 0 0) := (blk_cell BK213.out 3).trans rfl; have hfz12_0 := blk_frozen BK213.out 0; have hfz12_1 := blk_frozen BK213.out 1; have hfz12_2 := blk_frozen BK213.out 2; have hfz12_3 := blk_frozen BK213.out 3)))
       (try simp only [Act.put, List.setIfInBounds_toArray, List.set_cons_zero, List.set_cons_succ])
       go_cut [55] (fun v55 wc => ∃ (kq : Nat) (x55_6 : Bool), v55 = .bool x55_6 ∧ Aside0 (chicaneref14_Same.j1 kq l0 l1 x5_1 x55_6 ((rd_T24 l0 x5_1).f0) ((rd_T24 l0 x5_1).f1) ((rd_T24 l0 x5_1).f2) ((rd_T24 l0 x5_1).f3) ((rd_T24 l1 x5_1).f0) ((rd_T24 l1 x5_1).f1) ((rd_T24 l1 x5_1).f2) ((rd_T24 l1 x5_1).f3) = some r) ∧ Aside0 (kq ≤ k1) ∧ Aside0 (wc.heap[gb211]? = some (.cells #[.string ((rd_T24 l0 x5_1).f0), .bool ((rd_T24 l0 x5_1).f1), .int .i64 ((rd_T24 l0 x5_1).f2), (.slice A210_3 ((rd_T24 l0 x5_1).f3).length c210_3)] 24 (0, 0))) ∧ Aside0 (wc.heap[gb213]? = some (.cells #[.string ((rd_T24 l1 x5_1).f0), .bool ((rd_T24 l1 x5_1).f1), .int .i64 ((rd_T24 l1 x5_1).f2), (.slice A212_3 ((rd_T24 l1 x5_1).f3).length c212_3)] 24 (0, 0))) ∧ Aside0 (Below w.heap.size w wc))
       case first =>
        have H := HC7.out
        clear HC7
        by_cases c13 : ((rd_T24 l0 x5_1).f0).toList = ((rd_T24 l1 x5_1).f0).toList
        ·rw [if_pos c13] at H
         have c13b0 : (((rd_T24 l0 x5_1).f0).toList == ((rd_T24 l1 x5_1).f0).toList) = true := beq_iff_eq.mpr c13
         have c13b1 : (((rd_T24 l0 x5_1).f0).toList != ((rd_T24 l1 x5_1).f0).toList) = false := bne_eq_false_iff_eq.mpr c13
         clear c13
         (first | rw [c13b0] | (simp only [i64_w, i32_w]; rw [c13b0]) | skip)
         by_cases c14 : (((rd_T24 l0 x5_1).f1) != ((rd_T24 l1 x5_1).f1)) = true
         ·rw [if_pos c14] at H
          have c14b0 : (((rd_T24 l0 x5_1).f1) != ((rd_T24 l1 x5_1).f1)) = true := c14
          (try (have c14b1 : decide (((rd_T24 l0 x5_1).f1) = ((rd_T24 l1 x5_1).f1)) = false := by simpa using c14))
          (try (have c14b2 : (((rd_T24 l0 x5_1).f1) == ((rd_T24 l1 x5_1).f1)) = false := by simpa using c14))
          (try (have c14b3 : ¬ (((rd_T24 l0 x5_1).f1) = ((rd_T24 l1 x5_1).f1)) := by simpa using c14))
          clear c14
          have H' := Aside0.mk H
          clear H
          have hnb15 := NB211_213.out
          have hnc15 := NB213_211.out
          have hcz16_0 : w10.cell? ⟨gb211, 0, none⟩ = some (.string ((rd_T24 l0 x5_1).f0)) := (blk_cell BK211.out 0).trans rfl
          have hcz16_1 : w10.cell? ⟨gb211, 1, none⟩ = some (.bool ((rd_T24 l0 x5_1).f1)) := (blk_cell BK211.out 1).trans rfl
          have hcz16_2 : w10.cell? ⟨gb211, 2, none⟩ = some (.int .i64 ((rd_T24 l0 x5_1).f2)) := (blk_cell BK211.out 2).trans rfl
          have hcz16_3 : w10.cell? ⟨gb211, 3, none⟩ = some (.slice A210_3 ((rd_T24 l0 x5_1).f3).length c210_3) := (blk_cell BK211.out 3).trans rfl
          have hfz16_0 := blk_frozen BK211.out 0
          have hfz16_1 := blk_frozen BK211.out 1
          have hfz16_2 := blk_frozen BK211.out 2
          have hfz16_3 := blk_frozen BK211.out 3
          have hcz17_0 : w10.cell? ⟨gb213, 0, none⟩ = some (.string (⟨#[]⟩ : ByteArray)) := (blk_cell BK213.out 0).trans rfl
          have hcz17_1 : w10.cell? ⟨gb213, 1, none⟩ = some (.bool false) := (blk_cell BK213.out 1).trans rfl
          have hcz17_2 : w10.cell? ⟨gb213, 2, none⟩ = some (.int .i64 0) := (blk_cell BK213.out 2).trans rfl
          have hcz17_3 : w10.cell? ⟨gb213, 3, none⟩ = some (.slice none 0 0) := (blk_cell BK213.out 3).trans rfl
          have hfz17_0 := blk_frozen BK213.out 0
          have hfz17_1 := blk_frozen BK213.out 1
          have hfz17_2 := blk_frozen BK213.out 2
          have hfz17_3 := blk_frozen BK213.out 3
          go_wp2
          repeat (go_quiet (fail); try go_wp2)
          go_meet
          case rel => exact ⟨_, (true), (by first | rfl | (simp; done) | (simp [*]; done)), H', ⟨by have := HK1.out; first | omega | exact Nat.le_refl _⟩, ⟨by (with_reducible repeat (first | refine blk_drewN ?_ _ | refine blk_drew ?_ | refine blk_alloc ?_ _)); refine blk_far ?_ NB211_213.out _; (with_reducible repeat (first | refine blk_drewN ?_ _ | refine blk_drew ?_ | refine blk_alloc ?_ _)); refine blk_far ?_ NB211_213.out _; (with_reducible repeat (first | refine blk_drewN ?_ _ | refine blk_drew ?_ | refine blk_alloc ?_ _)); refine blk_far ?_ NB211_213.out _; (with_reducible repeat (first | refine blk_drewN ?_ _ | refine blk_drew ?_ | refine blk_alloc ?_ _)); refine blk_far ?_ NB211_213.out _; (with_reducible repeat (first | refine blk_drewN ?_ _ | refine blk_drew ?_ | refine blk_alloc ?_ _)); exact BK211.out⟩, ⟨by (with_reducible repeat (first | refine blk_drewN ?_ _ | refine blk_drew ?_ | refine blk_alloc ?_ _)); refine blk_put (cs := #[.string ((rd_T24 l1 x5_1).f0), .bool ((rd_T24 l1 x5_1).f1), .int .i64 ((rd_T24 l1 x5_1).f2), .slice none 0 0]) ?_ 3 _ rfl; (with_reducible repeat (first | refine blk_drewN ?_ _ | refine blk_drew ?_ | refine blk_alloc ?_ _)); refine blk_put (cs := #[.string ((rd_T24 l1 x5_1).f0), .bool ((rd_T24 l1 x5_1).f1), .int .i64 0, .slice none 0 0]) ?_ 2 _ rfl; (with_reducible repeat (first | refine blk_drewN ?_ _ | refine blk_drew ?_ | refine blk_alloc ?_ _)); refine blk_put (cs := #[.string ((rd_T24 l1 x5_1).f0), .bool false, .int .i64 0, .slice none 0 0]) ?_ 1 _ rfl; (with_reducible repeat (first | refine blk_drewN ?_ _ | refine blk_drew ?_ | refine blk_alloc ?_ _)); refine blk_put (cs := #[.string (⟨#[]⟩ : ByteArray), .bool false, .int .i64 0, .slice none 0 0]) ?_ 0 _ rfl; (with_reducible repeat (first | refine blk_drewN ?_ _ | refine blk_drew ?_ | refine blk_alloc ?_ _)); exact BK213.out⟩, ⟨by repeat (first | (with_reducible first | exact HB.out | apply below_alloc | apply pw_below_drewN | apply below_drew1 | refine below_set ?_ GE211.out | refine below_set ?_ GE213.out) | exact HB.out)⟩⟩
         ·rw [if_neg c14] at H
          have c14b0 : (((rd_T24 l0 x5_1).f1) != ((rd_T24 l1 x5_1).f1)) = false := by simpa using c14
          (try (have c14b1 : decide (((rd_T24 l0 x5_1).f1) = ((rd_T24 l1 x5_1).f1)) = true := by simpa using c14))
          (try (have c14b2 : (((rd_T24 l0 x5_1).f1) == ((rd_T24 l1 x5_1).f1)) = true := by simpa using c14))
          clear c14
          by_cases c18 : ((rd_T24 l0 x5_1).f2) = ((rd_T24 l1 x5_1).f2)
          ·rw [if_pos c18] at H
           have c18b0 : (((rd_T24 l0 x5_1).f2) == ((rd_T24 l1 x5_1).f2)) = true := beq_iff_eq.mpr c18
           have c18b1 : (((rd_T24 l0 x5_1).f2) != ((rd_T24 l1 x5_1).f2)) = false := bne_eq_false_iff_eq.mpr c18
           clear c18
           have H' := Aside0.mk H
           clear H
           have hnb19 := NB211_213.out
           have hnc19 := NB213_211.out
           have hcz20_0 : w10.cell? ⟨gb211, 0, none⟩ = some (.string ((rd_T24 l0 x5_1).f0)) := (blk_cell BK211.out 0).trans rfl
           have hcz20_1 : w10.cell? ⟨gb211, 1, none⟩ = some (.bool ((rd_T24 l0 x5_1).f1)) := (blk_cell BK211.out 1).trans rfl
           have hcz20_2 : w10.cell? ⟨gb211, 2, none⟩ = some (.int .i64 ((rd_T24 l0 x5_1).f2)) := (blk_cell BK211.out 2).trans rfl
           have hcz20_3 : w10.cell? ⟨gb211, 3, none⟩ = some (.slice A210_3 ((rd_T24 l0 x5_1).f3).length c210_3) := (blk_cell BK211.out 3).trans rfl
           have hfz20_0 := blk_frozen BK211.out 0
           have hfz20_1 := blk_frozen BK211.out 1
           have hfz20_2 := blk_frozen BK211.out 2
           have hfz20_3 := blk_frozen BK211.out 3
           have hcz21_0 : w10.cell? ⟨gb213, 0, none⟩ = some (.string (⟨#[]⟩ : ByteArray)) := (blk_cell BK213.out 0).trans rfl
           have hcz21_1 : w10.cell? ⟨gb213, 1, none⟩ = some (.bool false) := (blk_cell BK213.out 1).trans rfl
           have hcz21_2 : w10.cell? ⟨gb213, 2, none⟩ = some (.int .i64 0) := (blk_cell BK213.out 2).trans rfl
           have hcz21_3 : w10.cell? ⟨gb213, 3, none⟩ = some (.slice none 0 0) := (blk_cell BK213.out 3).trans rfl
           have hfz21_0 := blk_frozen BK213.out 0
           have hfz21_1 := blk_frozen BK213.out 1
           have hfz21_2 := blk_frozen BK213.out 2
           have hfz21_3 := blk_frozen BK213.out 3
           go_wp2
           repeat (go_quiet (fail); try go_wp2)
           go_meet
           case rel => exact ⟨_, (((((rd_T24 l0 x5_1).f3).length : Int) != (((rd_T24 l1 x5_1).f3).length : Int))), (by first | rfl | (simp; done) | (simp [*]; done)), H', ⟨by have := HK1.out; first | omega | exact Nat.le_refl _⟩, ⟨by (with_reducible repeat (first | refine blk_drewN ?_ _ | refine blk_drew ?_ | refine blk_alloc ?_ _)); refine blk_far ?_ NB211_213.out _; (with_reducible repeat (first | refine blk_drewN ?_ _ | refine blk_drew ?_ | refine blk_alloc ?_ _)); refine blk_far ?_ NB211_213.out _; (with_reducible repeat (first | refine blk_drewN ?_ _ | refine blk_drew ?_ | refine blk_alloc ?_ _)); refine blk_far ?_ NB211_213.out _; (with_reducible repeat (first | refine blk_drewN ?_ _ | refine blk_drew ?_ | refine blk_alloc ?_ _)); refine blk_far ?_ NB211_213.out _; (with_reducible repeat (first | refine blk_drewN ?_ _ | refine blk_drew ?_ | refine blk_alloc ?_ _)); exact BK211.out⟩, ⟨by (with_reducible repeat (first | refine blk_drewN ?_ _ | refine blk_drew ?_ | refine blk_alloc ?_ _)); refine blk_put (cs := #[.string ((rd_T24 l1 x5_1).f0), .bool ((rd_T24 l1 x5_1).f1), .int .i64 ((rd_T24 l1 x5_1).f2), .slice none 0 0]) ?_ 3 _ rfl; (with_reducible repeat (first | refine blk_drewN ?_ _ | refine blk_drew ?_ | refine blk_alloc ?_ _)); refine blk_put (cs := #[.string ((rd_T24 l1 x5_1).f0), .bool ((rd_T24 l1 x5_1).f1), .int .i64 0, .slice none 0 0]) ?_ 2 _ rfl; (with_reducible repeat (first | refine blk_drewN ?_ _ | refine blk_drew ?_ | refine blk_alloc ?_ _)); refine blk_put (cs := #[.string ((rd_T24 l1 x5_1).f0), .bool false, .int .i64 0, .slice none 0 0]) ?_ 1 _ rfl; (with_reducible repeat (first | refine blk_drewN ?_ _ | refine blk_drew ?_ | refine blk_alloc ?_ _)); refine blk_put (cs := #[.string (⟨#[]⟩ : ByteArray), .bool false, .int .i64 0, .slice none 0 0]) ?_ 0 _ rfl; (with_reducible repeat (first | refine blk_drewN ?_ _ | refine blk_drew ?_ | refine blk_alloc ?_ _)); exact BK213.out⟩, ⟨by repeat (first | (with_reducible first | exact HB.out | apply below_alloc | apply pw_below_drewN | apply below_drew1 | refine below_set ?_ GE211.out | refine below_set ?_ GE213.out) | exact HB.out)⟩⟩
          ·rw [if_neg c18] at H
           have c18b0 : (((rd_T24 l0 x5_1).f2) == ((rd_T24 l1 x5_1).f2)) = false := beq_eq_false_iff_ne.mpr c18
           have c18b1 : (((rd_T24 l0 x5_1).f2) != ((rd_T24 l1 x5_1).f2)) = true := bne_iff_ne.mpr c18
           have H' := Aside0.mk H
           clear H
           have hnb22 := NB211_213.out
           have hnc22 := NB213_211.out
           have hcz23_0 : w10.cell? ⟨gb211, 0, none⟩ = some (.string ((rd_T24 l0 x5_1).f0)) := (blk_cell BK211.out 0).trans rfl
           have hcz23_1 : w10.cell? ⟨gb211, 1, none⟩ = some (.bool ((rd_T24 l0 x5_1).f1)) := (blk_cell BK211.out 1).trans rfl
           have hcz23_2 : w10.cell? ⟨gb211, 2, none⟩ = some (.int .i64 ((rd_T24 l0 x5_1).f2)) := (blk_cell BK211.out 2).trans rfl
           have hcz23_3 : w10.cell? ⟨gb211, 3, none⟩ = some (.slice A210_3 ((rd_T24 l0 x5_1).f3).length c210_3) := (blk_cell BK211.out 3).trans rfl
           have hfz23_0 := blk_frozen BK211.out 0
           have hfz23_1 := blk_frozen BK211.out 1
           have hfz23_2 := blk_frozen BK211.out 2
           have hfz23_3 := blk_frozen BK211.out 3
           have hcz24_0 : w10.cell? ⟨gb213, 0, none⟩ = some (.string (⟨#[]⟩ : ByteArray)) := (blk_cell BK213.out 0).trans rfl
           have hcz24_1 : w10.cell? ⟨gb213, 1, none⟩ = some (.bool false) := (blk_cell BK213.out 1).trans rfl
           have hcz24_2 : w10.cell? ⟨gb213, 2, none⟩ = some (.int .i64 0) := (blk_cell BK213.out 2).trans rfl
           have hcz24_3 : w10.cell? ⟨gb213, 3, none⟩ = some (.slice none 0 0) := (blk_cell BK213.out 3).trans rfl
           have hfz24_0 := blk_frozen BK213.out 0
           have hfz24_1 := blk_frozen BK213.out 1
           have hfz24_2 := blk_frozen BK213.out 2
           have hfz24_3 := blk_frozen BK213.out 3
           go_wp2
           repeat (go_quiet (fail); try go_wp2)
           go_meet
           case rel => exact ⟨_, (true), (by first | rfl | (simp; done) | (simp [*]; done)), H', ⟨by have := HK1.out; first | omega | exact Nat.le_refl _⟩, ⟨by (with_reducible repeat (first | refine blk_drewN ?_ _ | refine blk_drew ?_ | refine blk_alloc ?_ _)); refine blk_far ?_ NB211_213.out _; (with_reducible repeat (first | refine blk_drewN ?_ _ | refine blk_drew ?_ | refine blk_alloc ?_ _)); refine blk_far ?_ NB211_213.out _; (with_reducible repeat (first | refine blk_drewN ?_ _ | refine blk_drew ?_ | refine blk_alloc ?_ _)); refine blk_far ?_ NB211_213.out _; (with_reducible repeat (first | refine blk_drewN ?_ _ | refine blk_drew ?_ | refine blk_alloc ?_ _)); refine blk_far ?_ NB211_213.out _; (with_reducible repeat (first | refine blk_drewN ?_ _ | refine blk_drew ?_ | refine blk_alloc ?_ _)); exact BK211.out⟩, ⟨by (with_reducible repeat (first | refine blk_drewN ?_ _ | refine blk_drew ?_ | refine blk_alloc ?_ _)); refine blk_put (cs := #[.string ((rd_T24 l1 x5_1).f0), .bool ((rd_T24 l1 x5_1).f1), .int .i64 ((rd_T24 l1 x5_1).f2), .slice none 0 0]) ?_ 3 _ rfl; (with_reducible repeat (first | refine blk_drewN ?_ _ | refine blk_drew ?_ | refine blk_alloc ?_ _)); refine blk_put (cs := #[.string ((rd_T24 l1 x5_1).f0), .bool ((rd_T24 l1 x5_1).f1), .int .i64 0, .slice none 0 0]) ?_ 2 _ rfl; (with_reducible repeat (first | refine blk_drewN ?_ _ | refine blk_drew ?_ | refine blk_alloc ?_ _)); refine blk_put (cs := #[.string ((rd_T24 l1 x5_1).f0), .bool false, .int .i64 0, .slice none 0 0]) ?_ 1 _ rfl; (with_reducible repeat (first | refine blk_drewN ?_ _ | refine blk_drew ?_ | refine blk_alloc ?_ _)); refine blk_put (cs := #[.string (⟨#[]⟩ : ByteArray), .bool false, .int .i64 0, .slice none 0 0]) ?_ 0 _ rfl; (with_reducible repeat (first | refine blk_drewN ?_ _ | refine blk_drew ?_ | refine blk_alloc ?_ _)); exact BK213.out⟩, ⟨by repeat (first | (with_reducible first | exact HB.out | apply below_alloc | apply pw_below_drewN | apply below_drew1 | refine below_set ?_ GE211.out | refine below_set ?_ GE213.out) | exact HB.out)⟩⟩
        ·rw [if_neg c13] at H
         have c13b0 : (((rd_T24 l0 x5_1).f0).toList == ((rd_T24 l1 x5_1).f0).toList) = false := beq_eq_false_iff_ne.mpr c13
         have c13b1 : (((rd_T24 l0 x5_1).f0).toList != ((rd_T24 l1 x5_1).f0).toList) = true := bne_iff_ne.mpr c13
         (first | rw [c13b0] | (simp only [i64_w, i32_w]; rw [c13b0]) | skip)
         have H' := Aside0.mk H
         clear H
         have hnb25 := NB211_213.out
         have hnc25 := NB213_211.out
         have hcz26_0 : w10.cell? ⟨gb211, 0, none⟩ = some (.string ((rd_T24 l0 x5_1).f0)) := (blk_cell BK211.out 0).trans rfl
         have hcz26_1 : w10.cell? ⟨gb211, 1, none⟩ = some (.bool ((rd_T24 l0 x5_1).f1)) := (blk_cell BK211.out 1).trans rfl
         have hcz26_2 : w10.cell? ⟨gb211, 2, none⟩ = some (.int .i64 ((rd_T24 l0 x5_1).f2)) := (blk_cell BK211.out 2).trans rfl
         have hcz26_3 : w10.cell? ⟨gb211, 3, none⟩ = some (.slice A210_3 ((rd_T24 l0 x5_1).f3).length c210_3) := (blk_cell BK211.out 3).trans rfl
         have hfz26_0 := blk_frozen BK211.out 0
         have hfz26_1 := blk_frozen BK211.out 1
         have hfz26_2 := blk_frozen BK211.out 2
         have hfz26_3 := blk_frozen BK211.out 3
         have hcz27_0 : w10.cell? ⟨gb213, 0, none⟩ = some (.string (⟨#[]⟩ : ByteArray)) := (blk_cell BK213.out 0).trans rfl
         have hcz27_1 : w10.cell? ⟨gb213, 1, none⟩ = some (.bool false) := (blk_cell BK213.out 1).trans rfl
         have hcz27_2 : w10.cell? ⟨gb213, 2, none⟩ = some (.int .i64 0) := (blk_cell BK213.out 2).trans rfl
         have hcz27_3 : w10.cell? ⟨gb213, 3, none⟩ = some (.slice none 0 0) := (blk_cell BK213.out 3).trans rfl
         have hfz27_0 := blk_frozen BK213.out 0
         have hfz27_1 := blk_frozen BK213.out 1
         have hfz27_2 := blk_frozen BK213.out 2
         have hfz27_3 := blk_frozen BK213.out 3
         go_wp2
         repeat (go_quiet (fail); try go_wp2)
         go_meet
         case rel => exact ⟨_, (true), (by first | rfl | (simp; done) | (simp [*]; done)), H', ⟨by have := HK1.out; first | omega | exact Nat.le_refl _⟩, ⟨by (with_reducible repeat (first | refine blk_drewN ?_ _ | refine blk_drew ?_ | refine blk_alloc ?_ _)); refine blk_far ?_ NB211_213.out _; (with_reducible repeat (first | refine blk_drewN ?_ _ | refine blk_drew ?_ | refine blk_alloc ?_ _)); refine blk_far ?_ NB211_213.out _; (with_reducible repeat (first | refine blk_drewN ?_ _ | refine blk_drew ?_ | refine blk_alloc ?_ _)); refine blk_far ?_ NB211_213.out _; (with_reducible repeat (first | refine blk_drewN ?_ _ | refine blk_drew ?_ | refine blk_alloc ?_ _)); refine blk_far ?_ NB211_213.out _; (with_reducible repeat (first | refine blk_drewN ?_ _ | refine blk_drew ?_ | refine blk_alloc ?_ _)); exact BK211.out⟩, ⟨by (with_reducible repeat (first | refine blk_drewN ?_ _ | refine blk_drew ?_ | refine blk_alloc ?_ _)); refine blk_put (cs := #[.string ((rd_T24 l1 x5_1).f0), .bool ((rd_T24 l1 x5_1).f1), .int .i64 ((rd_T24 l1 x5_1).f2), .slice none 0 0]) ?_ 3 _ rfl; (with_reducible repeat (first | refine blk_drewN ?_ _ | refine blk_drew ?_ | refine blk_alloc ?_ _)); refine blk_put (cs := #[.string ((rd_T24 l1 x5_1).f0), .bool ((rd_T24 l1 x5_1).f1), .int .i64 0, .slice none 0 0]) ?_ 2 _ rfl; (with_reducible repeat (first | refine blk_drewN ?_ _ | refine blk_drew ?_ | refine blk_alloc ?_ _)); refine blk_put (cs := #[.string ((rd_T24 l1 x5_1).f0), .bool false, .int .i64 0, .slice none 0 0]) ?_ 1 _ rfl; (with_reducible repeat (first | refine blk_drewN ?_ _ | refine blk_drew ?_ | refine blk_alloc ?_ _)); refine blk_put (cs := #[.string (⟨#[]⟩ : ByteArray), .bool false, .int .i64 0, .slice none 0 0]) ?_ 0 _ rfl; (with_reducible repeat (first | refine blk_drewN ?_ _ | refine blk_drew ?_ | refine blk_alloc ?_ _)); exact BK213.out⟩, ⟨by repeat (first | (with_reducible first | exact HB.out | apply below_alloc | apply pw_below_drewN | apply below_drew1 | refine below_set ?_ GE211.out | refine below_set ?_ GE213.out) | exact HB.out)⟩⟩
       case rest =>
        clear HC7
        try clear c1
        try clear c2
        try clear p2
        try clear q2
        try clear hx2
        try clear c3
        try clear c3b0
        try clear c3b1
        try clear c3b2
        try clear c3b3
        try clear c4
        try clear c4b0
        try clear c5
        try clear c5b0
        try clear c6
        try clear c6b0
        try clear c11
        try clear c13
        try clear c13b0
        try clear c13b1
        try clear c14
        try clear c14b0
        try clear c14b1
        try clear c14b2
        try clear c14b3
        try clear c15
        try clear c16
        try clear c18
        try clear c18b0
        try clear c18b1
        try clear c19
        try clear c21
        try clear p21
        try clear q21
        try clear hx21
        try clear c22
        try clear c25
        try clear hcz12_0
        try clear hcz12_1
        try clear hcz12_2
        try clear hcz12_3
        try clear hcz16_0
        try clear hcz16_1
        try clear hcz16_2
        try clear hcz16_3
        try clear hcz17_0
        try clear hcz17_1
        try clear hcz17_2
        try clear hcz17_3
        try clear hcz20_0
        try clear hcz20_1
        try clear hcz20_2
        try clear hcz20_3
        try clear hcz21_0
        try clear hcz21_1
        try clear hcz21_2
        try clear hcz21_3
        try clear hcz23_0
        try clear hcz23_1
        try clear hcz23_2
        try clear hcz23_3
        try clear hcz24_0
        try clear hcz24_1
        try clear hcz24_2
        try clear hcz24_3
        try clear hcz26_0
        try clear hcz26_1
        try clear hcz26_2
        try clear hcz26_3
        try clear hcz27_0
        try clear hcz27_1
        try clear hcz27_2
        try clear hcz27_3
        try clear hcz9_0
        try clear hcz9_1
        try clear hcz9_2
        try clear hcz9_3
        try clear hfz12_0
        try clear hfz12_1
        try clear hfz12_2
        try clear hfz12_3
        try clear hfz16_0
        try clear hfz16_1
        try clear hfz16_2
        try clear hfz16_3
        try clear hfz17_0
        try clear hfz17_1
        try clear hfz17_2
        try clear hfz17_3
        try clear hfz20_0
        try clear hfz20_1
        try clear hfz20_2
        try clear hfz20_3
        try clear hfz21_0
        try clear hfz21_1
        try clear hfz21_2
        try clear hfz21_3
        try clear hfz23_0
        try clear hfz23_1
        try clear hfz23_2
        try clear hfz23_3
        try clear hfz24_0
        try clear hfz24_1
        try clear hfz24_2
        try clear hfz24_3
        try clear hfz26_0
        try clear hfz26_1
        try clear hfz26_2
        try clear hfz26_3
        try clear hfz27_0
        try clear hfz27_1
        try clear hfz27_2
        try clear hfz27_3
        try clear hfz9_0
        try clear hfz9_1
        try clear hfz9_2
        try clear hfz9_3
        try clear hx210_0
        try clear hx210_1
        try clear hx210_2
        try clear hx210_3
        try clear hx212_0
        try clear hx212_1
        try clear hx212_2
        try clear hx212_3
        try clear p2
        try clear p210
        try clear p212
        try clear q210
        try clear q212
        obtain ⟨kq, x55_6, rfl, HA, HJ6, BK211, BK213, HB⟩ := hcut
        cases kq with
        | zero => exact absurd HA.out (by simp [chicaneref14_Same.j1])
        | succ kj6 =>
         have H := HA.out
         clear HA
         simp only [chicaneref14_Same.j1] at H
         by_cases c28 : x55_6 = true
         ·subst c28
          have H1 : (some false) = some r := by rw [if_pos rfl] at H; exact H
          clear H
          have H := H1
          clear H1
          obtain rfl := Option.some.inj H
          go_wp2
          repeat (go_quiet (fail); try go_wp2)
          go_ret
          exact ⟨by first | rfl | (simp [errW_none, errW_some] <;> rfl) | (simp [*, errW_none, errW_some] <;> rfl), by repeat (first | (with_reducible first | exact HB.out | apply below_alloc | apply pw_below_drewN | apply below_drew1 | refine below_set ?_ GE211.out | refine below_set ?_ GE213.out) | exact HB.out)⟩
         ·replace c28 := Bool.eq_false_iff.mpr c28
          subst c28
          have H1 : (chicaneref14_Same.l1 kj6 l0 l1 x5_1 0 ((rd_T24 l0 x5_1).f0) ((rd_T24 l0 x5_1).f1) ((rd_T24 l0 x5_1).f2) ((rd_T24 l0 x5_1).f3) ((rd_T24 l1 x5_1).f0) ((rd_T24 l1 x5_1).f1) ((rd_T24 l1 x5_1).f2) ((rd_T24 l1 x5_1).f3)) = some r := by rw [if_neg (show ¬ (false = true) by decide)] at H; exact H
          clear H
          have H := H1
          clear H1
          have H' := Aside0.mk H
          clear H
          go_wp2
          repeat (go_quiet (fail); try go_wp2)
          go_loopg [8] kj6 (fun kq v8 w' => ∃ (x8_3 : Int), v8 = .int .i64 x8_3 ∧ Aside0 (chicaneref14_Same.l1 kq l0 l1 x5_1 x8_3 ((rd_T24 l0 x5_1).f0) ((rd_T24 l0 x5_1).f1) ((rd_T24 l0 x5_1).f2) ((rd_T24 l0 x5_1).f3) ((rd_T24 l1 x5_1).f0) ((rd_T24 l1 x5_1).f1) ((rd_T24 l1 x5_1).f2) ((rd_T24 l1 x5_1).f3) = some r) ∧ Aside0 (kq ≤ kj6) ∧ Aside0 (w'.heap[gb211]? = some (.cells #[.string ((rd_T24 l0 x5_1).f0), .bool ((rd_T24 l0 x5_1).f1), .int .i64 ((rd_T24 l0 x5_1).f2), (.slice A210_3 ((rd_T24 l0 x5_1).f3).length c210_3)] 24 (0, 0))) ∧ Aside0 (w'.heap[gb213]? = some (.cells #[.string ((rd_T24 l1 x5_1).f0), .bool ((rd_T24 l1 x5_1).f1), .int .i64 ((rd_T24 l1 x5_1).f2), (.slice A212_3 ((rd_T24 l1 x5_1).f3).length c212_3)] 24 (0, 0))) ∧ Aside0 (Below w.heap.size w w'))
          case atStart => exact ⟨(0), (by first | rfl | (simp; done) | (simp [*]; done)), H', ⟨Nat.le_refl _⟩, ⟨by (with_reducible repeat (first | refine blk_drewN ?_ _ | refine blk_drew ?_ | refine blk_alloc ?_ _)); exact BK211.out⟩, ⟨by (with_reducible repeat (first | refine blk_drewN ?_ _ | refine blk_drew ?_ | refine blk_alloc ?_ _)); exact BK213.out⟩, ⟨by repeat (first | (with_reducible first | exact HB.out | apply below_alloc | apply pw_below_drewN | apply below_drew1 | refine below_set ?_ GE211.out | refine below_set ?_ GE213.out) | exact HB.out)⟩⟩
          case round =>
           clear H'
           try clear c1
           try clear c2
           try clear p2
           try clear q2
           try clear hx2
           try clear c3
           try clear c3b0
           try clear c3b1
           try clear c3b2
           try clear c3b3
           try clear c4
           try clear c4b0
           try clear c5
           try clear c5b0
           try clear c6
           try clear c6b0
           try clear c11
           try clear c13
           try clear c13b0
           try clear c13b1
           try clear c14
           try clear c14b0
           try clear c14b1
           try clear c14b2
           try clear c14b3
           try clear c15
           try clear c16
           try clear c18
           try clear c18b0
           try clear c18b1
           try clear c19
           try clear c21
           try clear p21
           try clear q21
           try clear hx21
           try clear c22
           try clear c25
           try clear c28
           try clear hcz12_0
           try clear hcz12_1
           try clear hcz12_2
           try clear hcz12_3
           try clear hcz16_0
           try clear hcz16_1
           try clear hcz16_2
           try clear hcz16_3
           try clear hcz17_0
           try clear hcz17_1
           try clear hcz17_2
           try clear hcz17_3
           try clear hcz20_0
           try clear hcz20_1
           try clear hcz20_2
           try clear hcz20_3
           try clear hcz21_0
           try clear hcz21_1
           try clear hcz21_2
           try clear hcz21_3
           try clear hcz23_0
           try clear hcz23_1
           try clear hcz23_2
           try clear hcz23_3
           try clear hcz24_0
           try clear hcz24_1
           try clear hcz24_2
           try clear hcz24_3
           try clear hcz26_0
           try clear hcz26_1
           try clear hcz26_2
           try clear hcz26_3
           try clear hcz27_0
           try clear hcz27_1
           try clear hcz27_2
           try clear hcz27_3
           try clear hcz9_0
           try clear hcz9_1
           try clear hcz9_2
           try clear hcz9_3
           try clear hfz12_0
           try clear hfz12_1
           try clear hfz12_2
           try clear hfz12_3
           try clear hfz16_0
           try clear hfz16_1
           try clear hfz16_2
           try clear hfz16_3
           try clear hfz17_0
           try clear hfz17_1
           try clear hfz17_2
           try clear hfz17_3
           try clear hfz20_0
           try clear hfz20_1
           try clear hfz20_2
           try clear hfz20_3
           try clear hfz21_0
           try clear hfz21_1
           try clear hfz21_2
           try clear hfz21_3
           try clear hfz23_0
           try clear hfz23_1
           try clear hfz23_2
           try clear hfz23_3
           try clear hfz24_0
           try clear hfz24_1
           try clear hfz24_2
           try clear hfz24_3
           try clear hfz26_0
           try clear hfz26_1
           try clear hfz26_2
           try clear hfz26_3
           try clear hfz27_0
           try clear hfz27_1
           try clear hfz27_2
           try clear hfz27_3
           try clear hfz9_0
           try clear hfz9_1
           try clear hfz9_2
           try clear hfz9_3
           try clear hx210_0
           try clear hx210_1
           try clear hx210_2
           try clear hx210_3
           try clear hx212_0
           try clear hx212_1
           try clear hx212_2
           try clear hx212_3
           try clear p2
           try clear p21
           try clear p210
           try clear p212
           try clear q2
           try clear q21
           try clear q210
           try clear q212
           obtain ⟨x8_3, rfl, HA, HK3, BK211, BK213, HB⟩ := hrel
           cases gk with
           | zero => exact absurd HA.out (by simp [chicaneref14_Same.l1])
           | succ k3 =>
            have H := HA.out
            clear HA
            simp only [chicaneref14_Same.l1] at H
            by_cases c29 : x8_3 < (((rd_T24 l0 x5_1).f3).length : Int)
            ·rw [if_pos c29] at H
             have c29b0 : decide (x8_3 < (((rd_T24 l0 x5_1).f3).length : Int)) = true := decide_eq_true c29
             clear c29
             by_cases c30 : 0 ≤ x8_3
             ·rw [if_pos c30] at H
              have c30b0 : decide (0 ≤ x8_3) = true := decide_eq_true c30
              clear c30
              by_cases c31 : x8_3 < (((rd_T24 l1 x5_1).f3).length : Int)
              ·rw [if_pos c31] at H
               have c31b0 : decide (x8_3 < (((rd_T24 l1 x5_1).f3).length : Int)) = true := decide_eq_true c31
               clear c31
               by_cases c32 : (!((((rd_T39 ((rd_T24 l0 x5_1).f3) x8_3).f0).toList) == (((rd_T39 ((rd_T24 l1 x5_1).f3) x8_3).f0).toList)) || (!(((rd_T39 ((rd_T24 l0 x5_1).f3) x8_3).f1) == ((rd_T39 ((rd_T24 l1 x5_1).f3) x8_3).f1)) || (!(((rd_T39 ((rd_T24 l0 x5_1).f3) x8_3).f2) == ((rd_T39 ((rd_T24 l1 x5_1).f3) x8_3).f2)) || (!(((rd_T39 ((rd_T24 l0 x5_1).f3) x8_3).f3) == ((rd_T39 ((rd_T24 l1 x5_1).f3) x8_3).f3)) || (!(((rd_T39 ((rd_T24 l0 x5_1).f3) x8_3).f4) == ((rd_T39 ((rd_T24 l1 x5_1).f3) x8_3).f4)) || (!(((rd_T39 ((rd_T24 l0 x5_1).f3) x8_3).f5) == ((rd_T39 ((rd_T24 l1 x5_1).f3) x8_3).f5)))))))) = true
               ·rw [if_pos c32] at H
                have c32b0 : (!((((rd_T39 ((rd_T24 l0 x5_1).f3) x8_3).f0).toList) == (((rd_T39 ((rd_T24 l1 x5_1).f3) x8_3).f0).toList)) || (!(((rd_T39 ((rd_T24 l0 x5_1).f3) x8_3).f1) == ((rd_T39 ((rd_T24 l1 x5_1).f3) x8_3).f1)) || (!(((rd_T39 ((rd_T24 l0 x5_1).f3) x8_3).f2) == ((rd_T39 ((rd_T24 l1 x5_1).f3) x8_3).f2)) || (!(((rd_T39 ((rd_T24 l0 x5_1).f3) x8_3).f3) == ((rd_T39 ((rd_T24 l1 x5_1).f3) x8_3).f3)) || (!(((rd_T39 ((rd_T24 l0 x5_1).f3) x8_3).f4) == ((rd_T39 ((rd_T24 l1 x5_1).f3) x8_3).f4)) || (!(((rd_T39 ((rd_T24 l0 x5_1).f3) x8_3).f5) == ((rd_T39 ((rd_T24 l1 x5_1).f3) x8_3).f5)))))))) = true := c32
                clear c32
                obtain rfl := Option.some.inj H
                have hnb33 := NB211_213.out
                have hnc33 := NB213_211.out
                have hcz34_0 : wr.cell? ⟨gb211, 0, none⟩ = some (.string ((rd_T24 l0 x5_1).f0)) := (blk_cell BK211.out 0).trans rfl
                have hcz34_1 : wr.cell? ⟨gb211, 1, none⟩ = some (.bool ((rd_T24 l0 x5_1).f1)) := (blk_cell BK211.out 1).trans rfl
                have hcz34_2 : wr.cell? ⟨gb211, 2, none⟩ = some (.int .i64 ((rd_T24 l0 x5_1).f2)) := (blk_cell BK211.out 2).trans rfl
                have hcz34_3 : wr.cell? ⟨gb211, 3, none⟩ = some (.slice A210_3 ((rd_T24 l0 x5_1).f3).length c210_3) := (blk_cell BK211.out 3).trans rfl
                have hfz34_0 := blk_frozen BK211.out 0
                have hfz34_1 := blk_frozen BK211.out 1
                have hfz34_2 := blk_frozen BK211.out 2
                have hfz34_3 := blk_frozen BK211.out 3
                have p214 : 0 ≤ (x8_3 : Int) := of_decide_eq_true (by first | (with_reducible assumption) | assumption)
                have q214 : x8_3 < (((rd_T24 l0 x5_1).f3).length : Int) := of_decide_eq_true (by first | (with_reducible assumption) | assumption)
                obtain ⟨ad214, e214, hx214_0, hx214_1, hx214_2, hx214_3, hx214_4, hx214_5⟩ := at_T39 HR210_3.out x8_3 p214 q214
                cases e214
                replace hx214_0 := (HB.out.cell (World.block_lt_of_cell? w _ hx214_0)).trans hx214_0
                replace hx214_1 := (HB.out.cell (World.block_lt_of_cell? w _ hx214_1)).trans hx214_1
                replace hx214_2 := (HB.out.cell (World.block_lt_of_cell? w _ hx214_2)).trans hx214_2
                replace hx214_3 := (HB.out.cell (World.block_lt_of_cell? w _ hx214_3)).trans hx214_3
                replace hx214_4 := (HB.out.cell (World.block_lt_of_cell? w _ hx214_4)).trans hx214_4
                replace hx214_5 := (HB.out.cell (World.block_lt_of_cell? w _ hx214_5)).trans hx214_5
                replace p214 := eq_true p214
                replace q214 := eq_true q214
                have hcz35_0 : wr.cell? ⟨gb213, 0, none⟩ = some (.string ((rd_T24 l1 x5_1).f0)) := (blk_cell BK213.out 0).trans rfl
                have hcz35_1 : wr.cell? ⟨gb213, 1, none⟩ = some (.bool ((rd_T24 l1 x5_1).f1)) := (blk_cell BK213.out 1).trans rfl
                have hcz35_2 : wr.cell? ⟨gb213, 2, none⟩ = some (.int .i64 ((rd_T24 l1 x5_1).f2)) := (blk_cell BK213.out 2).trans rfl
                have hcz35_3 : wr.cell? ⟨gb213, 3, none⟩ = some (.slice A212_3 ((rd_T24 l1 x5_1).f3).length c212_3) := (blk_cell BK213.out 3).trans rfl
                have hfz35_0 := blk_frozen BK213.out 0
                have hfz35_1 := blk_frozen BK213.out 1
                have hfz35_2 := blk_frozen BK213.out 2
                have hfz35_3 := blk_frozen BK213.out 3
                have p215 : 0 ≤ (x8_3 : Int) := of_decide_eq_true (by first | (with_reducible assumption) | assumption)
                have q215 : x8_3 < (((rd_T24 l1 x5_1).f3).length : Int) := of_decide_eq_true (by first | (with_reducible assumption) | assumption)
                obtain ⟨ad215, e215, hx215_0, hx215_1, hx215_2, hx215_3, hx215_4, hx215_5⟩ := at_T39 HR212_3.out x8_3 p215 q215
                cases e215
                replace hx215_0 := (HB.out.cell (World.block_lt_of_cell? w _ hx215_0)).trans hx215_0
                replace hx215_1 := (HB.out.cell (World.block_lt_of_cell? w _ hx215_1)).trans hx215_1
                replace hx215_2 := (HB.out.cell (World.block_lt_of_cell? w _ hx215_2)).trans hx215_2
                replace hx215_3 := (HB.out.cell (World.block_lt_of_cell? w _ hx215_3)).trans hx215_3
                replace hx215_4 := (HB.out.cell (World.block_lt_of_cell? w _ hx215_4)).trans hx215_4
                replace hx215_5 := (HB.out.cell (World.block_lt_of_cell? w _ hx215_5)).trans hx215_5
                replace p215 := eq_true p215
                replace q215 := eq_true q215
                go_wp2
                repeat (go_quiet (fail); try go_wp2)
                go_ret
                exact ⟨by first | rfl | (simp [errW_none, errW_some] <;> rfl) | (simp [*, errW_none, errW_some] <;> rfl), by repeat (first | (with_reducible first | exact HB.out | apply below_alloc | apply pw_below_drewN | apply below_drew1 | refine below_set ?_ GE211.out | refine below_set ?_ GE213.out) | exact HB.out)⟩
               ·rw [if_neg c32] at H
                have c32b0 : (!((((rd_T39 ((rd_T24 l0 x5_1).f3) x8_3).f0).toList) == (((rd_T39 ((rd_T24 l1 x5_1).f3) x8_3).f0).toList)) || (!(((rd_T39 ((rd_T24 l0 x5_1).f3) x8_3).f1) == ((rd_T39 ((rd_T24 l1 x5_1).f3) x8_3).f1)) || (!(((rd_T39 ((rd_T24 l0 x5_1).f3) x8_3).f2) == ((rd_T39 ((rd_T24 l1 x5_1).f3) x8_3).f2)) || (!(((rd_T39 ((rd_T24 l0 x5_1).f3) x8_3).f3) == ((rd_T39 ((rd_T24 l1 x5_1).f3) x8_3).f3)) || (!(((rd_T39 ((rd_T24 l0 x5_1).f3) x8_3).f4) == ((rd_T39 ((rd_T24 l1 x5_1).f3) x8_3).f4)) || (!(((rd_T39 ((rd_T24 l0 x5_1).f3) x8_3).f5) == ((rd_T39 ((rd_T24 l1 x5_1).f3) x8_3).f5)))))))) = false := by simpa using c32
                clear c32
                have H' := Aside0.mk H
                clear H
                have hnb36 := NB211_213.out
                have hnc36 := NB213_211.out
                have hcz37_0 : wr.cell? ⟨gb211, 0, none⟩ = some (.string ((rd_T24 l0 x5_1).f0)) := (blk_cell BK211.out 0).trans rfl
                have hcz37_1 : wr.cell? ⟨gb211, 1, none⟩ = some (.bool ((rd_T24 l0 x5_1).f1)) := (blk_cell BK211.out 1).trans rfl
                have hcz37_2 : wr.cell? ⟨gb211, 2, none⟩ = some (.int .i64 ((rd_T24 l0 x5_1).f2)) := (blk_cell BK211.out 2).trans rfl
                have hcz37_3 : wr.cell? ⟨gb211, 3, none⟩ = some (.slice A210_3 ((rd_T24 l0 x5_1).f3).length c210_3) := (blk_cell BK211.out 3).trans rfl
                have hfz37_0 := blk_frozen BK211.out 0
                have hfz37_1 := blk_frozen BK211.out 1
                have hfz37_2 := blk_frozen BK211.out 2
                have hfz37_3 := blk_frozen BK211.out 3
                have p214 : 0 ≤ (x8_3 : Int) := of_decide_eq_true (by first | (with_reducible assumption) | assumption)
                have q214 : x8_3 < (((rd_T24 l0 x5_1).f3).length : Int) := of_decide_eq_true (by first | (with_reducible assumption) | assumption)
                obtain ⟨ad214, e214, hx214_0, hx214_1, hx214_2, hx214_3, hx214_4, hx214_5⟩ := at_T39 HR210_3.out x8_3 p214 q214
                cases e214
                replace hx214_0 := (HB.out.cell (World.block_lt_of_cell? w _ hx214_0)).trans hx214_0
                replace hx214_1 := (HB.out.cell (World.block_lt_of_cell? w _ hx214_1)).trans hx214_1
                replace hx214_2 := (HB.out.cell (World.block_lt_of_cell? w _ hx214_2)).trans hx214_2
                replace hx214_3 := (HB.out.cell (World.block_lt_of_cell? w _ hx214_3)).trans hx214_3
                replace hx214_4 := (HB.out.cell (World.block_lt_of_cell? w _ hx214_4)).trans hx214_4
                replace hx214_5 := (HB.out.cell (World.block_lt_of_cell? w _ hx214_5)).trans hx214_5
                replace p214 := eq_true p214
                replace q214 := eq_true q214
                have hcz38_0 : wr.cell? ⟨gb213, 0, none⟩ = some (.string ((rd_T24 l1 x5_1).f0)) := (blk_cell BK213.out 0).trans rfl
                have hcz38_1 : wr.cell? ⟨gb213, 1, none⟩ = some (.bool ((rd_T24 l1 x5_1).f1)) := (blk_cell BK213.out 1).trans rfl
                have hcz38_2 : wr.cell? ⟨gb213, 2, none⟩ = some (.int .i64 ((rd_T24 l1 x5_1).f2)) := (blk_cell BK213.out 2).trans rfl
                have hcz38_3 : wr.cell? ⟨gb213, 3, none⟩ = some (.slice A212_3 ((rd_T24 l1 x5_1).f3).length c212_3) := (blk_cell BK213.out 3).trans rfl
                have hfz38_0 := blk_frozen BK213.out 0
                have hfz38_1 := blk_frozen BK213.out 1
                have hfz38_2 := blk_frozen BK213.out 2
                have hfz38_3 := blk_frozen BK213.out 3
                have p215 : 0 ≤ (x8_3 : Int) := of_decide_eq_true (by first | (with_reducible assumption) | assumption)
                have q215 : x8_3 < (((rd_T24 l1 x5_1).f3).length : Int) := of_decide_eq_true (by first | (with_reducible assumption) | assumption)
                obtain ⟨ad215, e215, hx215_0, hx215_1, hx215_2, hx215_3, hx215_4, hx215_5⟩ := at_T39 HR212_3.out x8_3 p215 q215
                cases e215
                replace hx215_0 := (HB.out.cell (World.block_lt_of_cell? w _ hx215_0)).trans hx215_0
                replace hx215_1 := (HB.out.cell (World.block_lt_of_cell? w _ hx215_1)).trans hx215_1
                replace hx215_2 := (HB.out.cell (World.block_lt_of_cell? w _ hx215_2)).trans hx215_2
                replace hx215_3 := (HB.out.cell (World.block_lt_of_cell? w _ hx215_3)).trans hx215_3
                replace hx215_4 := (HB.out.cell (World.block_lt_of_cell? w _ hx215_4)).trans hx215_4
                replace hx215_5 := (HB.out.cell (World.block_lt_of_cell? w _ hx215_5)).trans hx215_5
                replace p215 := eq_true p215
                replace q215 := eq_true q215
                go_wp2
                repeat (go_quiet (fail); try go_wp2)
                go_roundg k3
                case measure => have := HK1.out; have := HJ6.out; have := HK3.out; omega
                case rel => exact ⟨(wrap64 (x8_3 + 1)), (by first | rfl | (simp; done) | (simp [*]; done)), H', ⟨by have := HK1.out; have := HJ6.out; have := HK3.out; omega⟩, ⟨by (with_reducible repeat (first | refine blk_drewN ?_ _ | refine blk_drew ?_ | refine blk_alloc ?_ _)); exact BK211.out⟩, ⟨by (with_reducible repeat (first | refine blk_drewN ?_ _ | refine blk_drew ?_ | refine blk_alloc ?_ _)); exact BK213.out⟩, ⟨by repeat (first | (with_reducible first | exact HB.out | apply below_alloc | apply pw_below_drewN | apply below_drew1 | refine below_set ?_ GE211.out | refine below_set ?_ GE213.out) | exact HB.out)⟩⟩
              ·rw [if_neg c31] at H
               exact absurd H (by simp)
             ·rw [if_neg c30] at H
              exact absurd H (by simp)
            ·rw [if_neg c29] at H
             have c29b0 : decide (x8_3 < (((rd_T24 l0 x5_1).f3).length : Int)) = false := decide_eq_false c29
             clear c29
             have H' := Aside0.mk H
             clear H
             have hnb39 := NB211_213.out
             have hnc39 := NB213_211.out
             have hcz40_0 : wr.cell? ⟨gb211, 0, none⟩ = some (.string ((rd_T24 l0 x5_1).f0)) := (blk_cell BK211.out 0).trans rfl
             have hcz40_1 : wr.cell? ⟨gb211, 1, none⟩ = some (.bool ((rd_T24 l0 x5_1).f1)) := (blk_cell BK211.out 1).trans rfl
             have hcz40_2 : wr.cell? ⟨gb211, 2, none⟩ = some (.int .i64 ((rd_T24 l0 x5_1).f2)) := (blk_cell BK211.out 2).trans rfl
             have hcz40_3 : wr.cell? ⟨gb211, 3, none⟩ = some (.slice A210_3 ((rd_T24 l0 x5_1).f3).length c210_3) := (blk_cell BK211.out 3).trans rfl
             have hfz40_0 := blk_frozen BK211.out 0
             have hfz40_1 := blk_frozen BK211.out 1
             have hfz40_2 := blk_frozen BK211.out 2
             have hfz40_3 := blk_frozen BK211.out 3
             go_wp2
             repeat (go_quiet (fail); try go_wp2)
             go_roundg k3
             case measure => have := HK1.out; have := HJ6.out; have := HK3.out; omega
             case rel => exact ⟨(wrap64 (x5_1 + 1)), (by first | rfl | (simp; done) | (simp [*]; done)), H', ⟨by have := HK1.out; have := HJ6.out; have := HK3.out; omega⟩, ⟨by repeat (first | (with_reducible first | exact HB.out | apply below_alloc | apply pw_below_drewN | apply below_drew1 | refine below_set ?_ GE211.out | refine below_set ?_ GE213.out) | exact HB.out)⟩⟩
      ·rw [if_neg c6] at H
       exact absurd H (by simp)
     ·rw [if_neg c5] at H
      exact absurd H (by simp)
    ·rw [if_neg c4] at H
     have c4b0 : decide (x5_1 < (l0.length : Int)) = false := decide_eq_false c4
     clear c4
     obtain rfl := Option.some.inj H
     go_wp2
     repeat (go_quiet (fail); try go_wp2)
     go_ret
     exact ⟨by first | rfl | (simp [errW_none, errW_some] <;> rfl) | (simp [*, errW_none, errW_some] <;> rfl), by repeat (first | (with_reducible first | exact HB.out | apply below_alloc | apply pw_below_drewN | apply below_drew1) | exact HB.out)⟩
 ·rw [if_neg c3] at H
  have c3b0 : ((l0.length : Int) == (l1.length : Int)) = false := beq_eq_false_iff_ne.mpr c3
  have c3b1 : ((l0.length : Int) != (l1.length : Int)) = true := bne_iff_ne.mpr c3
  have c3b2 : (l0.length == l1.length) = false := by first | simpa using c3 | (simp at c3 ⊢; omega)
  obtain rfl := Option.some.inj H
  go_enter Try.func16, Try.ntmps16
  go_wp2
  repeat (go_quiet (fail); try go_wp2)
  go_ret
  exact ⟨by first | rfl | (simp [errW_none, errW_some] <;> rfl) | (simp [*, errW_none, errW_some] <;> rfl), by repeat (first | (with_reducible first | exact HB.out | apply below_alloc | apply pw_below_drewN | apply below_drew1) | exact HB.out)⟩
end Go.Proofs.Ytlglbpjccpdloaa.PNamA
set_option linter.unusedVariables false
set_option linter.unusedSimpArgs false
namespace Go.Proofs.Ytlglbpjccpdloaa.Ext
open Go.RowKit Go.Proofs.Ytlglbpjccpdloaa.PNamA Go.Proofs.YtlglbpjccpdloaaW.PrintWords Go.Proofs.YtlglbpjccpdloaaW.PrintLast
def NHold (p : Prop) : Prop := p
theorem nhold {p : Prop} (h : NHold p) : p := h
theorem NHold.go {p : Prop} (h : p) : NHold p := h
theorem info_tox : (Try.prog.info? 39).map (fun i => (i.zero, i.size, i.bytes)) = some (some (.agg #[.string ⟨#[]⟩, .int .i64 0, .bool false, .int .i64 0, .int .i64 0, .int .i64 0]), 6, 56) := by kernel_rfl
theorem info_prox : (Try.prog.info? 24).map (fun i => (i.zero, i.size, i.bytes)) = some (some (.agg #[.string ⟨#[]⟩, .bool false, .int .i64 0, .slice none 0 0]), 4, 56) := by kernel_rfl
theorem tox_made {w W : World} {base : Nat} {ok : Nat → Prop} {x : S39} {cs : List Value} (h : k39.K w x cs) : k39.M W base ok x cs := by
  rw [k39_open h]
  exact k39_mkM _ _ _ _
set_option maxRecDepth 100000 in
theorem clone_tox (A : Option Addr) (c : Nat) (l : List S39) (w : World) (hr : Kd.C k39 w A l.length l) (hl : l.length ≤ 1000000) :
    Calls Try.prog 72 #[.slice A l.length c] w fun e w' => ∃ v, e = .returned v ∧ Kd.R k39 39 w' w.heap.size (fun _ => True) v l ∧ Below w.heap.size w w' := by
  have HL := Lib.hid hl
  have HR := Lib.hid hr
  obtain ⟨n, hn⟩ : ∃ n, l.length = n := ⟨_, rfl⟩
  have HN := Lib.hid hn
  rw [hn]
  clear hn hl hr
  cases A with
  | none =>
    have h0 : l = [] := by
      cases l with
      | nil => rfl
      | cons x r => obtain ⟨_, h, _⟩ := HR.out.2.2 (by simp); cases h
    have H0 := Lib.hid h0
    clear h0
    have hnil := fun W => @Lib.run_eql_slice_nil Try.prog W 22 39 none n c 0 0 Try.underlying22
    go_enter Try.func72, Try.ntmps72
    go_wp2_with fail
    go_ret
    exact ⟨_, rfl, by rw [H0.out]; exact Kd.R_nil _ _ _ _ _, Below.refl _ _⟩
  | some ad =>
    have hnil := fun W => @Lib.run_eql_slice_nil Try.prog W 22 39 (some ad) n c 0 0 Try.underlying22
    go_enter Try.func72, Try.ntmps72
    go_wp2_with (first | (at_builtin; refine nhold ?_) | fail)
    refine NHold.go ?_
    have hl := HL.out
    have hb0 : Below w.heap.size w (w.alloc (.cells #[] 39)) := (Below.refl _ w).alloc (Nat.le_refl _) _
    have hn := HN.out
    refine Kd.R_append_rows (w0 := w) k39 w.heap.size rfl _ _ 22 39 _ 56 rfl Try.underlying22 info_tox rfl (by decide) (by decide)
      (.slice (some ⟨w.heap.size, 0, none⟩) 0 0) [] l (some ad) n c (fun _ => True) (fun _ => False) rfl rfl
      ⟨fun _ _ => trivial, OwnRow.lit w w.heap.size (inner := []) (Reps.none _ _) (Nat.le_refl _) (by simp)⟩ (Rr := k39.K w) (by
        have := Kd.C_below HR.out hb0
        rw [← hn]
        exact ReadsRow.imp_ HR.out hb0 (fun _ _ h => h)) (fun x cs h => tox_made h) (fun _ h => h.elim) (fun _ _ => trivial) hb0 hb0.size (by simp only [List.length_nil]; omega) ?_
    intro v1 w1 hR hB hg hat
    have HO := Lib.hid hR
    have HB := Lib.hid hB
    clear hR hB hg hat hb0 hl hn
    go_wp2_with fail
    go_ret
    exact ⟨_, rfl, by have := HO.out; rwa [List.nil_append] at this, HB.out⟩
theorem raw_of_C {α : Type} {d : Kd α} {w : World} {A : Option Addr} {n : Nat} {xs : List α} (h : Kd.C d w A n xs) :
    ∃ rows : List (List Value), rows.length = n ∧ Kd.C (Kd.raw d.sz) w A n rows ∧ ∀ (j : Nat) x row, xs[j]? = some x → rows[j]? = some row → d.K w x row := by
  obtain ⟨hl, hm, hc⟩ := h
  rcases Nat.eq_zero_or_pos n with h0 | h0
  · subst h0
    obtain rfl : xs = [] := List.eq_nil_of_length_eq_zero hl
    exact ⟨[], rfl, ⟨rfl, by omega, fun h => by omega⟩, fun j x row h => by simp at h⟩
  · obtain ⟨ad, hA, hc⟩ := hc h0
    have hex : ∀ j, ∃ c : List Value, ∀ p, xs[j]? = some p → c.length = d.sz ∧ d.K w p c ∧ ∀ i u, c[i]? = some u → w.cell? (ad.add (j * d.sz + i)) = some u := by
      intro j
      cases hx : xs[j]? with
      | none => exact ⟨[], fun p hp => by cases hp⟩
      | some p =>
        obtain ⟨c, h1, h2, h3⟩ := hc j p hx
        exact ⟨c, fun q hq => by cases hq; exact ⟨h1, h2, h3⟩⟩
    have hat : ∀ (j : Nat) row, ((List.range n).map fun j => Classical.choose (hex j))[j]? = some row → j < n ∧ row = Classical.choose (hex j) := by
      intro j row hj
      rw [List.getElem?_map] at hj
      obtain ⟨j', hj', rfl⟩ := Option.map_eq_some_iff.1 hj
      obtain ⟨hl', he⟩ := List.getElem?_eq_some_iff.1 hj'
      rw [List.getElem_range] at he
      subst he
      exact ⟨by simpa using hl', rfl⟩
    refine ⟨(List.range n).map fun j => Classical.choose (hex j), by simp, ⟨by simp, hm, fun _ => ⟨ad, hA, fun j row hj => ?_⟩⟩, fun j x row hx hj => ?_⟩
    · obtain ⟨hjn, rfl⟩ := hat j row hj
      have hjl : j < xs.length := by omega
      obtain ⟨h1, h2, h3⟩ := Classical.choose_spec (hex j) xs[j] (List.getElem?_eq_getElem hjl)
      exact ⟨_, h1, ⟨rfl, h1, d.K_one h2⟩, h3⟩
    · obtain ⟨hjn, rfl⟩ := hat j row hj
      exact (Classical.choose_spec (hex j) x hx).2.1
theorem S_of_raw {α : Type} {d : Kd α} {e base : Nat} {w : World} {ok ok' : Nat → Prop} {v : Value} {xs : List α} {rows : List (List Value)} (h : (Kd.raw d.sz).R e w base ok' v rows) (hl : rows.length = xs.length) (okj : Nat → Nat → Prop)
    (hap : ∀ i j k, okj i k → okj j k → i = j) (hok : ∀ j k, okj j k → ok k ∧ some k ≠ v.ownBlock) (hok0 : ∀ k, v.ownBlock = some k → ok k) (hM : ∀ (j : Nat) x row, xs[j]? = some x → rows[j]? = some row → d.M w base (okj j) x row) : Kd.S d e w base ok v xs := by
  obtain ⟨_, inner, ho, hr⟩ := h
  have hil : inner.length = xs.length * d.sz := by rw [← hl]; exact hr.1
  obtain ⟨f, hf⟩ := Kd.reps_tag (d := d) (w := w) (base := base) (ok := fun k => ok k ∧ some k ≠ v.ownBlock) okj hap hok hil (fun j x hx => by
    have hj : j < rows.length := by rw [hl]; exact (List.getElem?_eq_some_iff.1 hx).1
    have h1 := (hr.2 j _ (List.getElem?_eq_getElem hj)).1
    have h2 := hM j x rows[j] hx (List.getElem?_eq_getElem hj)
    rw [← h1] at h2
    exact h2)
  exact ⟨f, hok0, inner, by rw [List.length_zipIdx, ← hl]; exact ho, hf⟩
set_option maxRecDepth 100000 in
theorem clone_prox (A : Option Addr) (c : Nat) (l : List S24) (w : World) (hr : Kd.C k24 w A l.length l) (hl : l.length ≤ 1000000) :
    Calls Try.prog 71 #[.slice A l.length c] w fun e w' => ∃ v rows, e = .returned v ∧ (Kd.raw 4).R 24 w' w.heap.size (fun _ => True) v rows ∧ rows.length = l.length ∧
      (∀ (j : Nat) x row, l[j]? = some x → rows[j]? = some row → k24.K w x row) ∧ Below w.heap.size w w' := by
  obtain ⟨rows, hrl, hrc, hrk⟩ := raw_of_C hr
  have HL := Lib.hid hl
  have HR := Lib.hid hrc
  have HRL := Lib.hid hrl
  have HK := Lib.hid hrk
  clear hl hr hrc hrk hrl
  obtain ⟨n, hn⟩ : ∃ n, l.length = n := ⟨_, rfl⟩
  rw [hn] at HR HRL HL
  rw [hn]
  clear hn
  cases A with
  | none =>
    have h0 : rows = [] := by
      cases rows with
      | nil => rfl
      | cons x r => obtain ⟨_, h, _⟩ := HR.out.2.2 (by have := HRL.out; simp at this; omega); cases h
    have H0 := Lib.hid h0
    clear h0
    have hnil := fun W => @Lib.run_eql_slice_nil Try.prog W 26 24 none n c 0 0 Try.underlying26
    go_enter Try.func71, Try.ntmps71
    go_wp2_with fail
    go_ret
    exact ⟨_, rows, rfl, by rw [H0.out]; exact Kd.R_nil _ _ _ _ _, HRL.out, HK.out, Below.refl _ _⟩
  | some ad =>
    have hnil := fun W => @Lib.run_eql_slice_nil Try.prog W 26 24 (some ad) n c 0 0 Try.underlying26
    go_enter Try.func71, Try.ntmps71
    go_wp2_with (first | (at_builtin; refine nhold ?_) | fail)
    refine NHold.go ?_
    have hl := HL.out
    have hb0 : Below w.heap.size w (w.alloc (.cells #[] 24)) := (Below.refl _ w).alloc (Nat.le_refl _) _
    refine Kd.R_append_rows (w0 := w) (Kd.raw 4) w.heap.size rfl _ _ 26 24 _ 56 rfl Try.underlying26 info_prox rfl (by decide) (by decide)
      (.slice (some ⟨w.heap.size, 0, none⟩) 0 0) [] rows (some ad) n c (fun _ => True) (fun _ => False) rfl rfl
      ⟨fun _ _ => trivial, OwnRow.lit w w.heap.size (inner := []) (Reps.none _ _) (Nat.le_refl _) (by simp)⟩ (Rr := (Kd.raw 4).K w) (ReadsRow.imp_ HR.out hb0 (fun _ _ h => h)) (fun x cs h => h) (fun _ h => h.elim) (fun _ _ => trivial) hb0 hb0.size (by simp only [List.length_nil]; omega) ?_
    intro v1 w1 hR hB hg hat
    have HO := Lib.hid hR
    have HB := Lib.hid hB
    clear hR hB hg hat hb0 hl
    go_wp2_with fail
    go_ret
    exact ⟨_, rows, rfl, by have := HO.out; rwa [List.nil_append] at this, HRL.out, HK.out, HB.out⟩
def smallP (l : List S24) : Bool := decide (l.length ≤ 1000000) && l.all fun x => decide (x.f3.length ≤ 1000000)
def names_own.f (l : List S24) : Option (List S24) := if smallP l then some l else none
def OwnI (w : World) (v : Value) (l : List S24) (k : Nat) (wr : World) : Prop :=
  ∃ (rows : List (List Value)) (okj : Nat → Nat → Prop), (Kd.raw 4).R 24 wr w.heap.size (fun _ => True) v rows ∧ rows.length = l.length ∧
    (∀ (j : Nat) x row, k ≤ j → l[j]? = some x → rows[j]? = some row → k24.K w x row) ∧ (∀ (j : Nat) x row, j < k → l[j]? = some x → rows[j]? = some row → k24.M wr w.heap.size (okj j) x row) ∧
    (∀ i j b, okj i b → okj j b → i = j) ∧ (∀ j b, okj j b → b < wr.heap.size ∧ some b ≠ v.ownBlock) ∧ (∀ b, v.ownBlock = some b → b < wr.heap.size) ∧ Below w.heap.size w wr
theorem own_step {w wr W w2 : World} {g n cap k : Nat} {l : List S24} {x : S24} {v1 : Value} (hI : OwnI w (.slice (some ⟨g, 0, none⟩) n cap) l k wr) (hx : l[k]? = some x) (hb1 : Below wr.heap.size wr W)
    (hR : Kd.R k39 39 w2 W.heap.size (fun _ => True) v1 x.f3) (hb2 : Below W.heap.size W w2) : OwnI w (.slice (some ⟨g, 0, none⟩) n cap) l (k + 1) (w2.setCell ⟨g, k * 4 + 3, none⟩ v1) := by
  obtain ⟨rows, okj, hraw, hlen, hge, hlt, hap, hbd, hgl, hB⟩ := hI
  have hgo : (Value.slice (some ⟨g, 0, none⟩) n cap).ownBlock = some g := by simp [Value.ownBlock]
  have hgw := hgl g hgo
  have hb12 : Below wr.heap.size wr w2 := hb1.trans (hb2.mono hb1.size)
  have hkl : k < l.length := (List.getElem?_eq_some_iff.1 hx).1
  have hkr : k < rows.length := by omega
  have hrow : rows[k]? = some rows[k] := List.getElem?_eq_getElem hkr
  have hraw2 := Kd.R_below hraw hb12
  have hn := (Kd.R_reads' hraw2).1
  obtain ⟨c, hcl, hcM, hcc, _⟩ := Kd.R_elem hraw2 [] (k : Int) (by omega) (by omega)
  have hck : c = rows[k] := by
    have := hcM.1
    rwa [Int.toNat_natCast, List.getD_eq_getElem?_getD, hrow] at this
  obtain ⟨A3, c3, hopen, _, _⟩ := k24_open (hge k x rows[k] (Nat.le_refl _) hx hrow)
  have hv1 : v1.oneCell' = true := (Kd.R_val hR).2
  have hnew : c.take 3 ++ [v1] ++ c.drop (3 + [v1].length) = [.string x.f0, .bool x.f1, .int .i64 x.f2, v1] := by rw [hck, hopen]; rfl
  obtain ⟨hseg, hgrow⟩ := Kd.R_seg (okp := fun _ => False) hraw2 (k : Int) (by omega) (by omega) (c := c) (seg := [v1]) (j := 3) (x' := [.string x.f0, .bool x.f1, .int .i64 x.f2, v1]) hcl hcc (Nat.le_refl 4)
    (by rw [hnew]; exact ⟨rfl, rfl, fun u hu => by simp at hu; rcases hu with rfl | rfl | rfl | rfl <;> first | rfl | exact hv1⟩) (fun _ h => h.elim)
  have hset : w2.setCells g ((k : Int).toNat * (Kd.raw 4).sz + 3) [v1] = w2.setCell ⟨g, k * 4 + 3, none⟩ v1 := rfl
  rw [hset] at hseg hgrow
  rw [Int.toNat_natCast] at hseg
  have hvb : ∀ b, v1.ownBlock = some b → W.heap.size ≤ b ∧ b < w2.heap.size := fun b hb => ⟨Kd.R_base hR b hb, Kd.R_lt hR b hb⟩
  have hsz : wr.heap.size ≤ w2.heap.size := hb12.size
  have hszW : wr.heap.size ≤ W.heap.size := hb1.size
  have hs3 : (w2.setCell ⟨g, k * 4 + 3, none⟩ v1).heap.size = w2.heap.size := by simp
  have hBw : w.heap.size ≤ g := Kd.R_base hraw g hgo
  refine ⟨rows.set k [.string x.f0, .bool x.f1, .int .i64 x.f2, v1], fun j b => if j = k then v1.ownBlock = some b else okj j b, hseg, by rw [List.length_set]; exact hlen, ?_, ?_, ?_, ?_, ?_, ?_⟩
  · intro j y row hj hy hrj
    rw [List.getElem?_set_ne (by omega)] at hrj
    exact hge j y row (by omega) hy hrj
  · intro j y row hj hy hrj
    by_cases hjk : j = k
    · subst hjk
      rw [List.getElem?_set_self hkr] at hrj
      injection hrj with hrj
      rw [hx] at hy
      injection hy with hy
      subst hrj hy
      refine k24_mkM _ _ _ _ ?_
      have h1 := Kd.R_lower (Kd.R_tight rfl hR) (Nat.le_trans (Nat.le_trans hB.size hszW) (Nat.le_refl _))
      refine Kd.R_mono (Kd.R_step h1 (fun b hb _ => Below.heap_setCell _ _ _ _ (fun he => ?_))) (fun b hb => ?_)
      · have := (hvb b hb.symm).1
        simp only at he
        omega
      · simp only [if_true]
        exact hb.symm
    · rw [List.getElem?_set_ne (fun h => hjk h.symm)] at hrj
      have h1 := hlt j y row (by omega) hy hrj
      refine k24.M_mono (fun b hb => ?_) (Kd.M_step (w1 := w2.setCell ⟨g, k * 4 + 3, none⟩ v1) h1 (fun b hb hbl => ?_))
      · show if j = k then _ else _
        rw [if_neg hjk]; exact hb
      · rw [Below.heap_setCell _ _ _ _ (fun he => (hbd j b hb).2 (by rw [hgo]; simp only at he; rw [he]))]
        exact hb12.block b hbl
  · intro i j b hi hj
    by_cases h1 : i = k <;> by_cases h2 : j = k
    · omega
    · rw [if_pos h1] at hi
      rw [if_neg h2] at hj
      have := (hvb b hi).1
      have := (hbd j b hj).1
      omega
    · rw [if_neg h1] at hi
      rw [if_pos h2] at hj
      have := (hvb b hj).1
      have := (hbd i b hi).1
      omega
    · rw [if_neg h1] at hi
      rw [if_neg h2] at hj
      exact hap i j b hi hj
  · intro j b hb
    rw [hs3]
    by_cases hjk : j = k
    · rw [if_pos hjk] at hb
      have := hvb b hb
      refine ⟨this.2, fun he => ?_⟩
      rw [hgo] at he
      injection he with he
      omega
    · rw [if_neg hjk] at hb
      have := hbd j b hb
      exact ⟨by omega, this.2⟩
  · intro b hb
    rw [hs3]
    have := hgl b hb
    omega
  · exact (hB.trans (hb12.mono hB.size)).setCell hBw _
set_option maxRecDepth 100000 in
set_option maxHeartbeats 1000000 in
theorem names_own.calls (A0 : Option Addr) (c0 : Nat) (l0 : List S24) (r : List S24) (w : World) (hr0 : Kd.C k24 w A0 l0.length l0) (hc0 : l0.length ≤ c0) (h : names_own.f l0 = some r) :
    Calls Try.prog 40 #[.slice A0 l0.length c0] w fun e w' => ∃ v0_ : Value, e = .returned v0_ ∧ Kd.S k24 24 w' w.heap.size (fun _ => True) v0_ r ∧ Below w.heap.size w w' := by
  unfold names_own.f at h
  split at h
  · rename_i hsm
    injection h with h
    subst h
    simp only [smallP, Bool.and_eq_true, decide_eq_true_eq, List.all_eq_true] at hsm
    obtain ⟨hl, hall⟩ := hsm
    have HC := Lib.hid (clone_prox A0 c0 l0 w hr0 hl)
    have HALL := Lib.hid hall
    have hl9 : l0.length ≤ 9223372036854775807 := by omega
    clear hr0 hc0 hl hall
    obtain ⟨n, hn⟩ : ∃ n, l0.length = n := ⟨_, rfl⟩
    have HN := Lib.hid hn
    rw [hn] at HC hl9
    rw [hn]
    clear hn
    go_enter Try.func40, Try.ntmps40
    go_wp2_with (go_at_call 71; refine HC.out.mono ?_; rintro e w1 ⟨v, rows, rfl, hR, hrl, hK, hB⟩; obtain ⟨A, c, hv⟩ := Kd.R_slice hR; rw [hrl] at hv; subst hv; have HR := Lib.hid hR; have HRL := Lib.hid hrl; have HK := Lib.hid hK; have HB := Lib.hid hB; clear hR hrl hK hB)
    have hI0 : OwnI w (.slice A n c) l0 0 w1 := ⟨rows, fun _ _ => False, HR.out, by rw [HRL.out, HN.out], fun j x row _ hx hj => HK.out j x row hx hj, fun j x row hj => by omega, fun i j b h => h.elim, fun j b h => h.elim, Kd.R_lt HR.out, HB.out⟩
    have HI0 := Lib.hid hI0
    clear hI0
    go_loopw [10] (fun i wr => ∃ k : Nat, k ≤ n ∧ i = .int .i64 k ∧ Hid (OwnI w (.slice A n c) l0 k wr)) (fun i _ => n - (intOf i).toNat)
    case atStart => exact ⟨0, Nat.zero_le _, rfl, HI0⟩
    case round =>
      obtain ⟨k, hk, rfl, HI⟩ := hrel
      clear HI0 HR HRL HK HB HC
      by_cases hlt : k < n
      · obtain ⟨rows', okj, hraw, hlen, hge, hltM, hap, hbd, hgl, hB⟩ := HI.out
        have hll : k < l0.length := by rw [HN.out]; exact hlt
        have hkr : k < rows'.length := by omega
        obtain ⟨g, cap, hv, hBg, hgw, _⟩ := Kd.R_form hraw (by omega)
        have hA : A = some ⟨g, 0, none⟩ := by injection hv
        subst hA
        have hx : l0[k]? = some l0[k] := List.getElem?_eq_getElem hll
        have hrow : rows'[k]? = some rows'[k] := List.getElem?_eq_getElem hkr
        obtain ⟨cc, hcl, hcM, hcc, hcf⟩ := Kd.R_elem hraw [] (k : Int) (by omega) (by omega)
        have hck : cc = rows'[k] := by
          have := hcM.1
          rwa [Int.toNat_natCast, List.getD_eq_getElem?_getD, hrow] at this
        obtain ⟨A3, c3, hopen, _, hC3⟩ := k24_open (hge k _ _ (Nat.le_refl _) hx hrow)
        rw [hck, hopen] at hcc
        have x0 : wr.cell? ⟨g, k * 4, none⟩ = some (.string l0[k].f0) := hcc 0 _ rfl
        have x1 : wr.cell? ⟨g, k * 4 + 1, none⟩ = some (.bool l0[k].f1) := hcc 1 _ rfl
        have x2 : wr.cell? ⟨g, k * 4 + 2, none⟩ = some (.int .i64 l0[k].f2) := hcc 2 _ rfl
        have x3 : wr.cell? ⟨g, k * 4 + 3, none⟩ = some (.slice A3 l0[k].f3.length c3) := hcc 3 _ rfl
        have y3 : wr.frozen? ⟨g, k * 4 + 3, none⟩ = false := hcf 3
        have hC3' := Kd.C_below hC3 hB
        have hlen3 := HALL.out l0[k] (List.getElem_mem hll)
        have HX := Lib.hid hx
        clear hcc hcf hcM hcl hck hopen hrow hC3 hraw hge hltM hap hbd hgl hv hlen hkr hx
        generalize l0[k] = x at *
        have hi0 : (0 : Int) ≤ (k : Int) := Int.natCast_nonneg _
        have hi1 : (k : Int) < (n : Int) := by omega
        have hbx : Below wr.heap.size wr (wr.alloc (.cells #[.string x.f0, .bool x.f1, .int .i64 x.f2, .slice A3 x.f3.length c3] 24)) := (Below.refl _ wr).alloc (Nat.le_refl _) _
        have HCT := Lib.hid (clone_tox A3 c3 x.f3 _ (Kd.C_below hC3' hbx) hlen3)
        have HBX := Lib.hid hbx
        have HGW := Lib.hid hgw
        have z3 := nm_cell_at hbx x3
        have w3 : (wr.alloc (.cells #[.string x.f0, .bool x.f1, .int .i64 x.f2, .slice A3 x.f3.length c3] 24)).frozen? ⟨g, k * 4 + 3, none⟩ = false := (hbx.frozen (p := ⟨g, k * 4 + 3, none⟩) hgw).trans y3
        have Z3 := Lib.hid z3
        have W3 := Lib.hid w3
        clear hbx hC3' hlen3 hgw z3 w3 hB hBg
        go_wp2_with (go_at_call 72; refine HCT.out.mono ?_; rintro e w2 ⟨v1, rfl, hR1, hb2⟩; obtain ⟨A1, c1, rfl⟩ := Kd.R_slice hR1; have HR1 := Lib.hid hR1; have HB2 := Lib.hid hb2; have q1 := nm_cell_at hb2 Z3.out; have q2 := (hb2.frozen (p := ⟨g, k * 4 + 3, none⟩) (by have := HGW.out; have := HBX.out.size; simp only; omega)).trans W3.out; clear hR1 hb2)
        go_roundw
        case measure => simp [intOf]; omega
        case rel => exact ⟨k + 1, by omega, by go_num, Lib.hid (own_step HI.out HX.out HBX.out HR1.out HB2.out)⟩
      · have hk' : k = n := by omega
        subst hk'
        go_wp2_with fail
        go_ret
        obtain ⟨rows', okj, hraw, hlen, hge, hltM, hap, hbd, hgl, hB⟩ := HI.out
        refine ⟨_, rfl, S_of_raw (d := k24) hraw hlen (fun j b => j < l0.length ∧ okj j b) (fun i j b h1 h2 => hap i j b h1.2 h2.2) (fun j b h => ⟨trivial, (hbd j b h.2).2⟩) (fun _ _ => trivial) (fun j x row hx hr => ?_), hB⟩
        have hj : j < l0.length := (List.getElem?_eq_some_iff.1 hx).1
        exact k24.M_mono (fun b hb => ⟨hj, hb⟩) (hltM j x row (by rw [← HN.out]; exact hj) hx hr)
  · cases h
end Go.Proofs.Ytlglbpjccpdloaa.Ext
set_option linter.unusedVariables false
set_option linter.unusedSimpArgs false
namespace Go.Proofs.Ytlglbpjccpdloaa.Ext
open Go.RowKit Go.Proofs.Ytlglbpjccpdloaa.PNamA Go.Proofs.YtlglbpjccpdloaaW.PrintWords Go.Proofs.YtlglbpjccpdloaaW.PrintLast
abbrev SP (W : World) (B b n cap : Nat) (xs : List S24) : Prop := Kd.S k24 24 W B (fun _ => True) (.slice (some ⟨b, 0, none⟩) n cap) xs
abbrev HP (W : World) (B b n cap : Nat) (xs : List S24) (i : Nat) (oki : Nat → Prop) (c : List Value) : Prop := Kd.H k24 24 W B (fun _ => True) (.slice (some ⟨b, 0, none⟩) n cap) xs (i : Int) oki c
abbrev RT (W : World) (B : Nat) (ok : Nat → Prop) (v : Value) (l : List S39) : Prop := Kd.R k39 39 W B ok v l
theorem elemP {W : World} {B b n cap i : Nat} {xs : List S24} {x : S24} (h : SP W B b n cap xs) (hx : xs[i]? = some x) :
    ∃ (oki : Nat → Prop) (A : Option Addr) (c : Nat), RT W B oki (.slice A x.f3.length c) x.f3 ∧ W.cell? ⟨b, i * 4, none⟩ = some (.string x.f0) ∧ W.cell? ⟨b, i * 4 + 1, none⟩ = some (.bool x.f1) ∧ W.cell? ⟨b, i * 4 + 2, none⟩ = some (.int .i64 x.f2) ∧ W.cell? ⟨b, i * 4 + 3, none⟩ = some (.slice A x.f3.length c) ∧
      (∀ j, W.frozen? ⟨b, i * 4 + j, none⟩ = false) ∧ (∀ k, oki k → k ≠ b) ∧ HP W B b n cap xs i oki [.string x.f0, .bool x.f1, .int .i64 x.f2, .slice A x.f3.length c] := by
  have hn := (Kd.S_reads' h).1
  have hi : i < xs.length := (List.getElem?_eq_some_iff.1 hx).1
  obtain ⟨oki, c, hcl, hM, hcc, hfr, hoki, hH⟩ := Kd.S_elem h z24 (i : Int) (by omega) (by omega)
  rw [Int.toNat_natCast, List.getD_eq_getElem?_getD, hx] at hM
  obtain ⟨v3, rfl, hR⟩ := k24_openM hM
  obtain ⟨A, c3, hv⟩ := Kd.R_slice hR
  simp only [Option.getD_some] at hv hR hM hH hcc
  subst hv
  exact ⟨oki, A, c3, hR, hcc 0 _ rfl, hcc 1 _ rfl, hcc 2 _ rfl, hcc 3 _ rfl, hfr, fun k hk => (hoki k hk).2, hH⟩
theorem hole_set {W : World} {B b n cap i : Nat} {xs : List S24} {oki : Nat → Prop} {c0 c1 c2 v3 v' : Value} {y : S24} (hH : HP W B b n cap xs i oki [c0, c1, c2, v3]) (hi : i < n) (hc : [c0, c1, c2, v'] = [.string y.f0, .bool y.f1, .int .i64 y.f2, v']) (hR : RT W B oki v' y.f3) :
    SP (W.setCell ⟨b, i * 4 + 3, none⟩ v') B b n cap (xs.set i y) ∧ W.grownBy (W.setCell ⟨b, i * 4 + 3, none⟩ v') (some b) := by
  have h := Kd.S_seg (okg := fun _ => False) (okp := oki) (ok := fun _ => True) (d := k24) (e := 24) (Kd.H_mono hH (fun k _ => ⟨trivial, fun h => h⟩)) (by omega) (by omega) (seg := [v']) (j := 3) (Nat.le_refl 4) (x' := y) (by
    show k24.M W B oki y [c0, c1, c2, v']
    rw [hc]
    exact k24_mkM _ _ _ _ hR) (fun k hk => .inl hk) (fun k hk => hk.elim)
  rw [Int.toNat_natCast] at h
  exact h
theorem on_set {W : World} {B b n cap i : Nat} {xs : List S24} {x : S24} (h : SP W B b n cap xs) (hx : xs[i]? = some x) (on : Bool) :
    SP (W.setCell ⟨b, i * 4 + 1, none⟩ (.bool on)) B b n cap (xs.set i ⟨x.f0, on, x.f2, x.f3⟩) ∧ W.grownBy (W.setCell ⟨b, i * 4 + 1, none⟩ (.bool on)) (some b) := by
  have hn := (Kd.S_reads' h).1
  have hi : i < xs.length := (List.getElem?_eq_some_iff.1 hx).1
  obtain ⟨oki, A, c, hR, _, _, _, _, _, _, hH⟩ := elemP h hx
  have h := Kd.S_seg (okg := fun _ => False) (okp := oki) (ok := fun _ => True) (d := k24) (e := 24) (Kd.H_mono hH (fun k _ => ⟨trivial, fun h => h⟩)) (by omega) (by omega) (seg := [.bool on]) (j := 1) (show 1 + 1 ≤ 4 by omega) (x' := ⟨x.f0, on, x.f2, x.f3⟩) (by
    exact k24_mkM W B oki (⟨x.f0, on, x.f2, x.f3⟩ : S24) hR) (fun k hk => .inl hk) (fun k hk => hk.elim)
  rw [Int.toNat_natCast] at h
  exact h
theorem R_beyond {α : Type} {d : Kd α} {e base : Nat} {W : World} {ok : Nat → Prop} {g n c o : Nat} {xs : List α} {zs : List Value} (h : d.R e W base ok (.slice (some ⟨g, 0, none⟩) n c) xs) (ho : n * d.sz ≤ o) (hz : o + zs.length ≤ c * d.sz) :
    d.R e (W.setCells g o zs) base ok (.slice (some ⟨g, 0, none⟩) n c) xs ∧ W.grownBy (W.setCells g o zs) (some g) := by
  have hn := (Kd.R_reads' h).1
  obtain ⟨h0, inner, hown, hr⟩ := h
  obtain ⟨h1, h2, h3, h4⟩ := setCells_same g zs o W
  refine ⟨⟨h0, inner, ?_, hr.imp_ (fun p cs hp => Kd.M_step hp (fun k hk _ => setCells_far zs o k (fun he => hk.2 (by rw [he]; simp [Value.ownBlock]))))⟩, ⟨h1, h2, h3, by rw [h4]; exact Nat.le_refl _, fun k hk hne => setCells_far zs o k (fun he => hne (by rw [he]))⟩⟩
  obtain ⟨hl, hown⟩ := hown
  refine ⟨hl, ?_⟩
  rcases hown with ⟨hv, _⟩ | ⟨g', cap', cur, hv, hb, hh, hnc, hcm, hcs, htake⟩
  · cases hv
  · injection hv with ha hn' hc
    injection ha with ha
    injection ha with hg
    subst hg hc
    have hcl : cur.toList.length = c * d.sz := by rw [Array.length_toList]; exact hcs
    obtain ⟨cur', h5, h6, h7⟩ := setCells_row zs o W cur hh (by rw [hcs]; exact hz)
    refine .inr ⟨g, c, cur', by rw [hn], hb, h5, hnc, hcm, by rw [h6, hcs], ?_⟩
    rw [h7, List.append_assoc, List.take_append_of_le_length (by rw [List.length_take, hcl]; rw [hn] at ho; omega), List.take_take, Nat.min_eq_left (by rw [hn] at ho; exact ho)]
    exact htake
theorem run_clear_one {P : Program} (w : World) (t e ty : TypeId) (z : Value) (ht : P.underlying t = some (.slice e)) (hv : ∀ w, (zeroValue e).run P w = .ok z w) (h1 : ∀ u ∈ z.cells.toList, u.oneCell' = true) (b o c : Nat)
    (hc : ∀ j, j < z.cells.size → (w.cell? ⟨b, o + j, none⟩).isSome = true) (hf : ∀ j, j < z.cells.size → w.frozen? ⟨b, o + j, none⟩ = false) :
    (Builtin.clear_ #[t] ty #[.slice (some ⟨b, o, none⟩) 1 c]).run P w = .ok (.tuple #[]) (w.setCells b o z.cells.toList) := by
  have hzc : (Builtin.zeroCells z.cells 1).toList = z.cells.toList := by
    simp [Builtin.zeroCells]
    apply List.ext_getElem
    · simp
    · intro i h1 h2
      simp at h1
      simp only [List.getElem_map, List.getElem_range, Nat.mod_eq_of_lt h1, Array.getElem_toList]
      exact getElem!_pos z.cells i h1
  have hst := run_storeCells_cells (P := P) b o z.cells.toList 0 w (by simpa using hc) (by simpa using hf) h1
  simp only [Nat.add_zero] at hst
  simp [Builtin.clear_, run_underlying ht, hv, hzc, hst]
theorem R_cells {α : Type} {d : Kd α} {e base : Nat} {W : World} {ok : Nat → Prop} {g n c : Nat} {xs : List α} (h : d.R e W base ok (.slice (some ⟨g, 0, none⟩) n c) xs) (j : Nat) (hj : j < c * d.sz) : (W.cell? ⟨g, j, none⟩).isSome = true ∧ W.frozen? ⟨g, j, none⟩ = false := by
  obtain ⟨h0, inner, hown, hr⟩ := h
  obtain ⟨hl, hown⟩ := hown
  rcases hown with ⟨hv, _⟩ | ⟨g', cap', cur, hv, hb, hh, hnc, hcm, hcs, htake⟩
  · cases hv
  · injection hv with ha hn' hc
    injection ha with ha
    injection ha with hg
    subst hg hc
    refine ⟨?_, by simp [World.frozen?, hh]⟩
    rw [cell_of_row W g j cur e (0, 0) hh, Array.getElem?_eq_getElem (by rw [hcs]; exact hj)]
    rfl
theorem zero_tox (w : World) : (zeroValue 39).run Try.prog w = .ok (.agg #[.string ⟨#[]⟩, .int .i64 0, .bool false, .int .i64 0, .int .i64 0, .int .i64 0]) w := by kernel_rfl
theorem info_tox_size : (Try.prog.info? 39).map (·.size) = some 6 := by kernel_rfl
theorem step_del {ops : Array Oper} {o : Oper} {a : Act} {W : World} {Kc : Act → World → Prop} {Q : Exit → Act → World → Prop} (hgd : o.guard = none) (s x : Operand)
    (ho : o.op = .call { callee := .builtin .append, args := #[s, x], argTypes := #[22, 22] }) (g n c k base : Nat) (ok : Nat → Prop) (xs : List S39) (HO : Hid (RT W base ok (.slice (some ⟨g, 0, none⟩) n c) xs)) (hk : k < n)
    (hs : a.eval s = .slice (some ⟨g, 0, none⟩) k c) (hx : a.eval x = .slice (if c = k + 1 then some ⟨g, 0, none⟩ else some ⟨g, (k + 1) * 6, none⟩) (n - (k + 1)) (c - (k + 1)))
    (h : ∀ w1, Hid (RT w1 base ok (.slice (some ⟨g, 0, none⟩) (n - 1) c) (xs.eraseIdx k)) → Hid (W.grownBy w1 (some g)) → Kc (a.put o.dst (.slice (some ⟨g, 0, none⟩) (n - 1) c)) w1) :
    if Region.wanted o (yielded ops a.tmps) = true then Oper.wp Try.prog o a W Kc Q else Kc (a.put o.dst undef) W :=
  Kd.R_delete_step (w0 := W) k39 base (by simp [Region.wanted, hgd]) s x 22 39 ho Try.underlying22 info_tox_size (k := k) hs hx (by
    simp only [Option.map_some, show k39.sz = 6 from rfl, add_at, Nat.zero_add]) rfl HO.out hk (Below.refl base W) (by
      have h1 := Kd.R_base HO.out g (by simp [Value.ownBlock])
      have h2 := Kd.R_lt HO.out g (by simp [Value.ownBlock])
      omega) (fun w1 hR _ hg => h w1 (Lib.hid hR) (Lib.hid hg))
set_option maxRecDepth 100000 in
set_option maxHeartbeats 2000000 in
theorem delete_tox (g m c k base : Nat) (ok : Nat → Prop) (xs : List S39) (w : World) (hR : RT w base ok (.slice (some ⟨g, 0, none⟩) (m + 1) c) xs) (hk : k < m + 1) (hm : m ≤ 1000000) :
    Calls Try.prog 47 #[.slice (some ⟨g, 0, none⟩) (m + 1 : Nat) c, .int .i64 (k : Int), .int .i64 ((k : Int) + 1)] w fun e w' => e = .returned (.slice (some ⟨g, 0, none⟩) m c) ∧ RT w' base ok (.slice (some ⟨g, 0, none⟩) m c) (xs.eraseIdx k) ∧ w.grownBy w' (some g) := by
  have hnc := (Kd.R_reads' hR).2.1
  have HRD : Hid (RT w.drew base ok (.slice (some ⟨g, 0, none⟩) (m + 1) c) xs) := Lib.hid (Kd.R_drew hR)
  obtain ⟨n, hn⟩ : ∃ n, m + 1 = n := ⟨_, rfl⟩
  rw [hn] at HRD hk hnc ⊢
  have q1 : ((k : Int) == (k : Int) + 1) = false := by simp; omega
  have q2 : (0 : Int) ≤ (k : Int) := Int.natCast_nonneg _
  have q3 : (k : Int) + 1 ≤ (n : Int) := by omega
  have q4 : IntKind.i64.wrap ((k : Int) + 1) = (k : Int) + 1 := IntWalk.i64_in _ (by omega)
  have q5 : k ≤ c := by omega
  have q6 : k + 1 ≤ c := by omega
  have q7 : k + 1 ≤ n := by omega
  have q8 : (0 : Int) ≤ (k : Int) + 1 := by omega
  have HM := Lib.hid hn
  clear hR hn
  go_enter Try.func47, Try.ntmps47
  go_wp2_with fail
  go_region_law (refine step_del rfl (.tmp 22) (.tmp 25) rfl g n c k base ok xs HRD hk rfl rfl ?_; intro w1 HR1 HG1)
  have hn := HM.out
  have hm1 : n - 1 = m := by omega
  rw [hm1] at HR1 ⊢
  have hcs : ∀ j, j < 6 → (w1.cell? ⟨g, m * 6 + j, none⟩).isSome = true ∧ w1.frozen? ⟨g, m * 6 + j, none⟩ = false := fun j hj => R_cells HR1.out _ (by show m * 6 + j < c * 6; omega)
  have hcl : ∀ ty, (Builtin.clear_ #[22] ty #[.slice (some ⟨g, m * 6, none⟩) 1 (c - m)]).run Try.prog w1 = .ok (.tuple #[]) (w1.setCells g (m * 6) [.string ⟨#[]⟩, .int .i64 0, .bool false, .int .i64 0, .int .i64 0, .int .i64 0]) := fun ty =>
    run_clear_one w1 _ _ ty _ Try.underlying22 zero_tox (by intro u hu; simp [Value.cells] at hu; rcases hu with rfl | rfl | rfl | rfl | rfl | rfl <;> rfl) g (m * 6) (c - m) (fun j hj => (hcs j hj).1) (fun j hj => (hcs j hj).2)
  obtain ⟨hR2, hG2⟩ := R_beyond (zs := [.string ⟨#[]⟩, .int .i64 0, .bool false, .int .i64 0, .int .i64 0, .int .i64 0]) (o := m * 6) HR1.out (Nat.le_refl _) (by show m * 6 + 6 ≤ c * 6; omega)
  have HE := Lib.hid (And.intro hR2 (World.grownBy.trans HG1.out hG2))
  have r1 : (m : Int) ≤ (n : Int) := by omega
  have r2 : (n : Int) ≤ (c : Int) := by omega
  have r3 : n - m = 1 := by omega
  have r4 : m ≤ n := by omega
  have r5 : ¬ c = m := by omega
  generalize (w1.setCells g (m * 6) [.string ⟨#[]⟩, .int .i64 0, .bool false, .int .i64 0, .int .i64 0, .int .i64 0]) = w2 at *
  clear hcs hR2 hG2 hn hm1 q1 q2 q3 q4 q5 q6 q7 q8
  go_wp2_with fail
  all_goals
    go_ret
    first
      | exact ⟨rfl, HE.out.1, ⟨HE.out.2.os, HE.out.2.tape, HE.out.2.output, HE.out.2.size, HE.out.2.block⟩⟩
      | (have hh : c = k + 1 := by assumption
         have h2 := HE.out
         rw [hh] at h2
         exact ⟨rfl, h2.1, ⟨h2.2.os, h2.2.tape, h2.2.output, h2.2.size, h2.2.block⟩⟩)
end Go.Proofs.Ytlglbpjccpdloaa.Ext
