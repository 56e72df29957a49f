/- Gathered by a program of this session (shake.py): what the claim's theorem needs. -/
import Derived.Test.YtlglbpjccpdloaaGreatNs1
import Derived.Test.YtlglbpjccpdloaaGreatNs2
import Derived.Test.YtlglbpjccpdloaaGreatNs3
import Derived.Test.YtlglbpjccpdloaaGreatNs4
import Derived.IntWalk
set_option linter.unusedVariables false
set_option linter.unusedSimpArgs false
namespace Go.Proofs.YtlglbpjccpdloaaGreat.Ext
end Go.Proofs.YtlglbpjccpdloaaGreat.Ext
namespace Go.Proofs.YtlglbpjccpdloaaGreat.PNamA
end Go.Proofs.YtlglbpjccpdloaaGreat.PNamA
namespace Go.Proofs.YtlglbpjccpdloaaGreat.Sq
end Go.Proofs.YtlglbpjccpdloaaGreat.Sq
namespace Go.Proofs.YtlglbpjccpdloaaGreat.Tox
end Go.Proofs.YtlglbpjccpdloaaGreat.Tox
namespace Go.Proofs.YtlglbpjccpdloaaGreat.ToxZ
end Go.Proofs.YtlglbpjccpdloaaGreat.ToxZ
namespace Go.Proofs.YtlglbpjccpdloaaGreatW.PrintLast
end Go.Proofs.YtlglbpjccpdloaaGreatW.PrintLast
namespace Go.Proofs.YtlglbpjccpdloaaGreatW.PrintMore
end Go.Proofs.YtlglbpjccpdloaaGreatW.PrintMore
namespace Go.Proofs.YtlglbpjccpdloaaGreatW.PrintWords
end Go.Proofs.YtlglbpjccpdloaaGreatW.PrintWords
namespace Go.Proofs.YtlglbpjccpdloaaGreat.PNamA
open Go.Proofs.YtlglbpjccpdloaaGreat.Ext Go.Proofs.YtlglbpjccpdloaaGreat.ToxZ Go.RowKit Go.Proofs.YtlglbpjccpdloaaGreatW.PrintWords Go.Proofs.YtlglbpjccpdloaaGreatW.PrintLast Go.Proofs.YtlglbpjccpdloaaGreatW.PrintMore Go.Proofs.YtlglbpjccpdloaaGreat.Sq
attribute [local go_sem] max2_int min2_int max_two min_two max_three min_three max_four min_four   -- for this text's walks alone
set_option linter.unusedVariables false
set_option linter.unusedSimpArgs false
private theorem pw_size_mk (l : Array UInt8) : (⟨l⟩ : ByteArray).size = l.size := rfl
attribute [local go_sem high] eqA24
mutual
def chicaneref14_Same.l0 : Nat → List (S39) → List (S39) → Int → Option (Bool)
 | 0, _, _, _ => none
 | k + 1, x0, x1, x5 => if x5 < (x0.length : Int) then (if 0 ≤ x5 then (if x5 < (x1.length : Int) then (if ((rd_T39 x0 x5).f0).toList = ((rd_T39 x1 x5).f0).toList then (if (((rd_T39 x0 x5).f1) != ((rd_T39 x1 x5).f1)) = true then (chicaneref14_Same.j1 k x0 x1 x5 true ((rd_T39 x0 x5).f0) ((rd_T39 x0 x5).f1) ((rd_T39 x0 x5).f2) ((rd_T39 x0 x5).f3) ((rd_T39 x1 x5).f0) ((rd_T39 x1 x5).f1) ((rd_T39 x1 x5).f2) ((rd_T39 x1 x5).f3)) else (if ((rd_T39 x0 x5).f2) = ((rd_T39 x1 x5).f2) then (chicaneref14_Same.j1 k x0 x1 x5 ((((rd_T39 x0 x5).f3).length : Int) != (((rd_T39 x1 x5).f3).length : Int)) ((rd_T39 x0 x5).f0) ((rd_T39 x0 x5).f1) ((rd_T39 x0 x5).f2) ((rd_T39 x0 x5).f3) ((rd_T39 x1 x5).f0) ((rd_T39 x1 x5).f1) ((rd_T39 x1 x5).f2) ((rd_T39 x1 x5).f3)) else (chicaneref14_Same.j1 k x0 x1 x5 true ((rd_T39 x0 x5).f0) ((rd_T39 x0 x5).f1) ((rd_T39 x0 x5).f2) ((rd_T39 x0 x5).f3) ((rd_T39 x1 x5).f0) ((rd_T39 x1 x5).f1) ((rd_T39 x1 x5).f2) ((rd_T39 x1 x5).f3)))) else (chicaneref14_Same.j1 k x0 x1 x5 true ((rd_T39 x0 x5).f0) ((rd_T39 x0 x5).f1) ((rd_T39 x0 x5).f2) ((rd_T39 x0 x5).f3) ((rd_T39 x1 x5).f0) ((rd_T39 x1 x5).f1) ((rd_T39 x1 x5).f2) ((rd_T39 x1 x5).f3))) else (none)) else (none)) else (some true)
def chicaneref14_Same.j1 : Nat → List (S39) → List (S39) → Int → Bool → ByteArray → Bool → Int → List (S24) → ByteArray → Bool → Int → List (S24) → Option (Bool)
 | 0, _, _, _, _, _, _, _, _, _, _, _, _ => none
 | k + 1, x0, x1, x5, x55, x331000, x331001, x331002, x331003, x333000, x333001, x333002, x333003 => if x55 = true then (some false) else (chicaneref14_Same.l1 k x0 x1 x5 0 x331000 x331001 x331002 x331003 x333000 x333001 x333002 x333003)
def chicaneref14_Same.l1 : Nat → List (S39) → List (S39) → Int → Int → ByteArray → Bool → Int → List (S24) → ByteArray → Bool → Int → List (S24) → Option (Bool)
 | 0, _, _, _, _, _, _, _, _, _, _, _, _ => none
 | k + 1, x0, x1, x5, x8, x331000, x331001, x331002, x331003, x333000, x333001, x333002, x333003 => if x8 < (x331003.length : Int) then (if 0 ≤ x8 then (if x8 < (x333003.length : Int) then (if (!((((rd_T24 x331003 x8).f0).toList) == (((rd_T24 x333003 x8).f0).toList)) || (!(((rd_T24 x331003 x8).f1) == ((rd_T24 x333003 x8).f1)) || (!(((rd_T24 x331003 x8).f2) == ((rd_T24 x333003 x8).f2)) || (!(((rd_T24 x331003 x8).f3) == ((rd_T24 x333003 x8).f3)) || (!(((rd_T24 x331003 x8).f4) == ((rd_T24 x333003 x8).f4)) || (!(((rd_T24 x331003 x8).f5) == ((rd_T24 x333003 x8).f5)))))))) = true then (some false) else (chicaneref14_Same.l1 k x0 x1 x5 (wrap64 (x8 + 1)) x331000 x331001 x331002 x331003 x333000 x333001 x333002 x333003)) else (none)) else (none)) else (chicaneref14_Same.l0 k x0 x1 (wrap64 (x5 + 1)))
end
def chicaneref14_Same.f (k : Nat) (l0 : List (S39)) (l1 : List (S39)) : Option (Bool) := if (l0.length : Int) = (l1.length : Int) then (chicaneref14_Same.l0 k l0 l1 0) else (some false)
set_option maxHeartbeats 8000000 in
set_option maxRecDepth 100000 in
theorem chicaneref14_Same.calls (k : Nat) (A0 : Option Addr) (c0 : Nat) (l0 : List (S39)) (A1 : Option Addr) (c1 : Nat) (l1 : List (S39)) (r : Bool) (w : World) (hr0 : Kd.C k39 w A0 l0.length l0) (hc0 : l0.length ≤ c0) (hr1 : Kd.C k39 w A1 l1.length l1) (hc1 : l1.length ≤ c1) (h : chicaneref14_Same.f k l0 l1 = some r) :
  Calls Tryz.prog 11 #[.slice A0 l0.length c0, .slice A1 l1.length c1] w fun e w' => e = .returned (.bool r) ∧ Below w.heap.size w w' := by
 have hu39 := Tryz.underlying39
 have hu24 := Tryz.underlying24
 have HR0 := Aside0.mk hr0
 have HC0 := Aside0.mk hc0
 clear hr0 hc0
 have HR1 := Aside0.mk hr1
 have HC1 := Aside0.mk hc1
 clear hr1 hc1
 have HB := Aside0.mk (Below.refl w.heap.size w)
 have H : (if (l0.length : Int) = (l1.length : Int) then (chicaneref14_Same.l0 k l0 l1 0) else (some false)) = some r := h
 clear h
 by_cases c3 : (l0.length : Int) = (l1.length : Int)
 ·rw [if_pos c3] at H
  have c3b0 : ((l0.length : Int) == (l1.length : Int)) = true := beq_iff_eq.mpr c3
  have c3b1 : ((l0.length : Int) != (l1.length : Int)) = false := bne_eq_false_iff_eq.mpr c3
  have c3b2 : (l0.length == l1.length) = true := by first | simpa using c3 | (simp at c3 ⊢; omega)
  clear c3
  have H' := Aside0.mk H
  clear H
  go_enter Tryz.func11, Tryz.ntmps11
  go_wp2
  repeat (go_quiet (fail); try go_wp2)
  go_loopg [5] k (fun kq v5 w' => ∃ (x5_1 : Int), v5 = .int .i64 x5_1 ∧ Aside0 (chicaneref14_Same.l0 kq l0 l1 x5_1 = some r) ∧ Aside0 (kq ≤ k) ∧ Aside0 (Below w.heap.size w w'))
  case atStart => exact ⟨(0), qE1, H', ⟨Nat.le_refl _⟩, ⟨by repeat (first | (with_reducible first | exact HB.out | apply below_alloc | apply pw_below_drewN | apply below_drew1) | exact HB.out)⟩⟩
  case round =>
   clear H'
   try clear c1
   try clear p2
   try clear c3
   try clear c3b0
   try clear c3b1
   try clear c3b2
   try clear c3b3
   obtain ⟨x5_1, rfl, HA, HK1, HB⟩ := hrel
   cases gk with
   | zero => exact absurd HA.out (by simp [chicaneref14_Same.l0])
   | succ k1 =>
    have H := HA.out
    clear HA
    simp only [chicaneref14_Same.l0] at H
    by_cases c4 : x5_1 < (l0.length : Int)
    ·rw [if_pos c4] at H
     have c4b0 : decide (x5_1 < (l0.length : Int)) = true := decide_eq_true c4
     clear c4
     by_cases c5 : 0 ≤ x5_1
     ·rw [if_pos c5] at H
      have c5b0 : decide (0 ≤ x5_1) = true := decide_eq_true c5
      clear c5
      by_cases c6 : x5_1 < (l1.length : Int)
      ·rw [if_pos c6] at H
       have c6b0 : decide (x5_1 < (l1.length : Int)) = true := decide_eq_true c6
       clear c6
       have HC7 := Aside0.mk H
       clear H
       have p329 : 0 ≤ (x5_1 : Int) := of_decide_eq_true qA
       have q329 : x5_1 < (l0.length : Int) := of_decide_eq_true qA
       obtain ⟨ad329, A329_3, c329_3, e329, hx329_0, hx329_1, hx329_2, hx329_3, hl329_3, hi329_3⟩ := at_T39 HR0.out x5_1 p329 q329
       cases e329
       replace hx329_0 := (HB.out.cell (World.block_lt_of_cell? w _ hx329_0)).trans hx329_0
       replace hx329_1 := (HB.out.cell (World.block_lt_of_cell? w _ hx329_1)).trans hx329_1
       replace hx329_2 := (HB.out.cell (World.block_lt_of_cell? w _ hx329_2)).trans hx329_2
       replace hx329_3 := (HB.out.cell (World.block_lt_of_cell? w _ hx329_3)).trans hx329_3
       have HR329_3 := Aside0.mk hi329_3
       have HC329_3 := Aside0.mk hl329_3
       clear hi329_3 hl329_3
       replace p329 := eq_true p329
       replace q329 := eq_true q329
       go_upto_region 8 with (first | ((with_reducible refine gate_dst (N := 6) rfl ?_); (try (refine gate_guard (by rfl) ?_; dsimp only)); refine box_event ?hg (N := 6) ?hd (cs := #[.string (⟨#[]⟩ : ByteArray), .bool false, .int .i64 0, .slice none 0 0]) (t := 39) ?hr ?_; (case hd => rfl); (case hg => rfl); (case hr => first | (go_simp; done) | (go_simp; rfl)); intro gb330 hg w8 hbox hb; have n0_ := Aside0.mk (below_step (qB HB.out) hb); have n1_ := Aside0.mk (hbox); have n2_ := Aside0.mk ((qs hg (below_size (qB HB.out)) : w.heap.size ≤ gb330)); have n3_ := Aside0.mk ((qs hg (below_size (qB HB.out)) : w.heap.size ≤ gb330)); clear HB; have HB := n0_; have BK330 := n1_; have GW330 := n2_; have GE330 := n3_; clear n0_ n1_ n2_ n3_ hb hbox hg; have hcz9 := qC4 BK330.out; have p331 : 0 ≤ (x5_1 : Int) := of_decide_eq_true qA; have q331 : x5_1 < (l1.length : Int) := of_decide_eq_true qA; obtain ⟨ad331, A331_3, c331_3, e331, hx331_0, hx331_1, hx331_2, hx331_3, hl331_3, hi331_3⟩ := at_T39 HR1.out x5_1 p331 q331; cases e331; have hn331_0 : ad331.block ≠ gb330 := Nat.ne_of_lt (Nat.lt_of_lt_of_le (by have := World.block_lt_of_cell? _ _ hx331_0; first | rwa [add_block] at this | exact this) GW330.out); have hn331_1 : ad331.block ≠ gb330 := Nat.ne_of_lt (Nat.lt_of_lt_of_le (by have := World.block_lt_of_cell? _ _ hx331_0; first | rwa [add_block] at this | exact this) GW330.out); have hn331_2 : ad331.block ≠ gb330 := Nat.ne_of_lt (Nat.lt_of_lt_of_le (by have := World.block_lt_of_cell? _ _ hx331_0; first | rwa [add_block] at this | exact this) GW330.out); have hn331_3 : ad331.block ≠ gb330 := Nat.ne_of_lt (Nat.lt_of_lt_of_le (by have := World.block_lt_of_cell? _ _ hx331_0; first | rwa [add_block] at this | exact this) GW330.out); replace hx331_0 := (HB.out.cell (World.block_lt_of_cell? w _ hx331_0)).trans hx331_0; replace hx331_1 := (HB.out.cell (World.block_lt_of_cell? w _ hx331_1)).trans hx331_1; replace hx331_2 := (HB.out.cell (World.block_lt_of_cell? w _ hx331_2)).trans hx331_2; replace hx331_3 := (HB.out.cell (World.block_lt_of_cell? w _ hx331_3)).trans hx331_3; have HR331_3 := Aside0.mk hi331_3; have HC331_3 := Aside0.mk hl331_3; clear hi331_3 hl331_3; replace hx331_0 := (cell_far (p := ⟨gb330, 0, none⟩) (by first | (rw [add_block]; exact hn331_0) | (show (Addr.add _ _).block ≠ _; rw [add_block]; exact hn331_0) | exact hn331_0) (.string ((rd_T39 l0 x5_1).f0))).trans hx331_0; replace hx331_1 := (cell_far (p := ⟨gb330, 0, none⟩) (by first | (rw [add_block]; exact hn331_0) | (show (Addr.add _ _).block ≠ _; rw [add_block]; exact hn331_0) | exact hn331_0) (.string ((rd_T39 l0 x5_1).f0))).trans hx331_1; replace hx331_2 := (cell_far (p := ⟨gb330, 0, none⟩) (by first | (rw [add_block]; exact hn331_0) | (show (Addr.add _ _).block ≠ _; rw [add_block]; exact hn331_0) | exact hn331_0) (.string ((rd_T39 l0 x5_1).f0))).trans hx331_2; replace hx331_3 := (cell_far (p := ⟨gb330, 0, none⟩) (by first | (rw [add_block]; exact hn331_0) | (show (Addr.add _ _).block ≠ _; rw [add_block]; exact hn331_0) | exact hn331_0) (.string ((rd_T39 l0 x5_1).f0))).trans hx331_3; replace hx331_0 := (cell_far (p := ⟨gb330, 1, none⟩) (by first | (rw [add_block]; exact hn331_1) | (show (Addr.add _ _).block ≠ _; rw [add_block]; exact hn331_1) | exact hn331_1) (.bool ((rd_T39 l0 x5_1).f1))).trans hx331_0; replace hx331_1 := (cell_far (p := ⟨gb330, 1, none⟩) (by first | (rw [add_block]; exact hn331_1) | (show (Addr.add _ _).block ≠ _; rw [add_block]; exact hn331_1) | exact hn331_1) (.bool ((rd_T39 l0 x5_1).f1))).trans hx331_1; replace hx331_2 := (cell_far (p := ⟨gb330, 1, none⟩) (by first | (rw [add_block]; exact hn331_1) | (show (Addr.add _ _).block ≠ _; rw [add_block]; exact hn331_1) | exact hn331_1) (.bool ((rd_T39 l0 x5_1).f1))).trans hx331_2; replace hx331_3 := (cell_far (p := ⟨gb330, 1, none⟩) (by first | (rw [add_block]; exact hn331_1) | (show (Addr.add _ _).block ≠ _; rw [add_block]; exact hn331_1) | exact hn331_1) (.bool ((rd_T39 l0 x5_1).f1))).trans hx331_3; replace hx331_0 := (cell_far (p := ⟨gb330, 2, none⟩) (by first | (rw [add_block]; exact hn331_2) | (show (Addr.add _ _).block ≠ _; rw [add_block]; exact hn331_2) | exact hn331_2) (.int .i64 ((rd_T39 l0 x5_1).f2))).trans hx331_0; replace hx331_1 := (cell_far (p := ⟨gb330, 2, none⟩) (by first | (rw [add_block]; exact hn331_2) | (show (Addr.add _ _).block ≠ _; rw [add_block]; exact hn331_2) | exact hn331_2) (.int .i64 ((rd_T39 l0 x5_1).f2))).trans hx331_1; replace hx331_2 := (cell_far (p := ⟨gb330, 2, none⟩) (by first | (rw [add_block]; exact hn331_2) | (show (Addr.add _ _).block ≠ _; rw [add_block]; exact hn331_2) | exact hn331_2) (.int .i64 ((rd_T39 l0 x5_1).f2))).trans hx331_2; replace hx331_3 := (cell_far (p := ⟨gb330, 2, none⟩) (by first | (rw [add_block]; exact hn331_2) | (show (Addr.add _ _).block ≠ _; rw [add_block]; exact hn331_2) | exact hn331_2) (.int .i64 ((rd_T39 l0 x5_1).f2))).trans hx331_3; replace hx331_0 := (cell_far (p := ⟨gb330, 3, none⟩) (by first | (rw [add_block]; exact hn331_3) | (show (Addr.add _ _).block ≠ _; rw [add_block]; exact hn331_3) | exact hn331_3) (.slice A329_3 ((rd_T39 l0 x5_1).f3).length c329_3)).trans hx331_0; replace hx331_1 := (cell_far (p := ⟨gb330, 3, none⟩) (by first | (rw [add_block]; exact hn331_3) | (show (Addr.add _ _).block ≠ _; rw [add_block]; exact hn331_3) | exact hn331_3) (.slice A329_3 ((rd_T39 l0 x5_1).f3).length c329_3)).trans hx331_1; replace hx331_2 := (cell_far (p := ⟨gb330, 3, none⟩) (by first | (rw [add_block]; exact hn331_3) | (show (Addr.add _ _).block ≠ _; rw [add_block]; exact hn331_3) | exact hn331_3) (.slice A329_3 ((rd_T39 l0 x5_1).f3).length c329_3)).trans hx331_2; replace hx331_3 := (cell_far (p := ⟨gb330, 3, none⟩) (by first | (rw [add_block]; exact hn331_3) | (show (Addr.add _ _).block ≠ _; rw [add_block]; exact hn331_3) | exact hn331_3) (.slice A329_3 ((rd_T39 l0 x5_1).f3).length c329_3)).trans hx331_3; (try have hy331_0 := fun (n_ : Nat) => (show ((((((w8.drewN n_).setCell ⟨gb330, 0, none⟩ (.string ((rd_T39 l0 x5_1).f0))).setCell ⟨gb330, 1, none⟩ (.bool ((rd_T39 l0 x5_1).f1))).setCell ⟨gb330, 2, none⟩ (.int .i64 ((rd_T39 l0 x5_1).f2))).setCell ⟨gb330, 3, none⟩ (.slice A329_3 ((rd_T39 l0 x5_1).f3).length c329_3))).cell? _ = some _ from hx331_0)); (try have hy331_1 := fun (n_ : Nat) => (show ((((((w8.drewN n_).setCell ⟨gb330, 0, none⟩ (.string ((rd_T39 l0 x5_1).f0))).setCell ⟨gb330, 1, none⟩ (.bool ((rd_T39 l0 x5_1).f1))).setCell ⟨gb330, 2, none⟩ (.int .i64 ((rd_T39 l0 x5_1).f2))).setCell ⟨gb330, 3, none⟩ (.slice A329_3 ((rd_T39 l0 x5_1).f3).length c329_3))).cell? _ = some _ from hx331_1)); (try have hy331_2 := fun (n_ : Nat) => (show ((((((w8.drewN n_).setCell ⟨gb330, 0, none⟩ (.string ((rd_T39 l0 x5_1).f0))).setCell ⟨gb330, 1, none⟩ (.bool ((rd_T39 l0 x5_1).f1))).setCell ⟨gb330, 2, none⟩ (.int .i64 ((rd_T39 l0 x5_1).f2))).setCell ⟨gb330, 3, none⟩ (.slice A329_3 ((rd_T39 l0 x5_1).f3).length c329_3))).cell? _ = some _ from hx331_2)); (try have hy331_3 := fun (n_ : Nat) => (show ((((((w8.drewN n_).setCell ⟨gb330, 0, none⟩ (.string ((rd_T39 l0 x5_1).f0))).setCell ⟨gb330, 1, none⟩ (.bool ((rd_T39 l0 x5_1).f1))).setCell ⟨gb330, 2, none⟩ (.int .i64 ((rd_T39 l0 x5_1).f2))).setCell ⟨gb330, 3, none⟩ (.slice A329_3 ((rd_T39 l0 x5_1).f3).length c329_3))).cell? _ = some _ from hx331_3)); clear hn331_0 hn331_1 hn331_2 hn331_3; replace p331 := eq_true p331; replace q331 := eq_true q331) | ((with_reducible refine gate_dst (N := 7) rfl ?_); (try (refine gate_guard (by rfl) ?_; dsimp only)); refine box_event ?hg (N := 7) ?hd (cs := #[.string (⟨#[]⟩ : ByteArray), .bool false, .int .i64 0, .slice none 0 0]) (t := 39) ?hr ?_; (case hd => rfl); (case hg => rfl); (case hr => first | (go_simp; done) | (go_simp; rfl)); intro gb332 hg w10 hbox hb; have n0_ := Aside0.mk (blk_below (g := gb330) (o := .cells #[.string ((rd_T39 l0 x5_1).f0), .bool ((rd_T39 l0 x5_1).f1), .int .i64 ((rd_T39 l0 x5_1).f2), .slice A329_3 ((rd_T39 l0 x5_1).f3).length c329_3] 39 (0, 0)) (by (with_reducible repeat (first | refine blk_drewN ?_ _ | refine blk_drew ?_ | refine blk_alloc ?_ _)); refine blk_put (cs := #[.string ((rd_T39 l0 x5_1).f0), .bool ((rd_T39 l0 x5_1).f1), .int .i64 ((rd_T39 l0 x5_1).f2), .slice none 0 0]) ?_ 3 _ rfl; (with_reducible repeat (first | refine blk_drewN ?_ _ | refine blk_drew ?_ | refine blk_alloc ?_ _)); refine blk_put (cs := #[.string ((rd_T39 l0 x5_1).f0), .bool ((rd_T39 l0 x5_1).f1), .int .i64 0, .slice none 0 0]) ?_ 2 _ rfl; (with_reducible repeat (first | refine blk_drewN ?_ _ | refine blk_drew ?_ | refine blk_alloc ?_ _)); refine blk_put (cs := #[.string ((rd_T39 l0 x5_1).f0), .bool false, .int .i64 0, .slice none 0 0]) ?_ 1 _ rfl; (with_reducible repeat (first | refine blk_drewN ?_ _ | refine blk_drew ?_ | refine blk_alloc ?_ _)); refine blk_put (cs := #[.string (⟨#[]⟩ : ByteArray), .bool false, .int .i64 0, .slice none 0 0]) ?_ 0 _ rfl; (with_reducible repeat (first | refine blk_drewN ?_ _ | refine blk_drew ?_ | refine blk_alloc ?_ _)); exact BK330.out) hb); have n1_ := Aside0.mk (below_step (qB1 HB.out GE330.out) hb); have n2_ := Aside0.mk (hbox); have n3_ := Aside0.mk ((qs hg (below_size (qB1 HB.out GE330.out)) : w.heap.size ≤ gb332)); have n4_ := Aside0.mk ((qs hg (below_size (qB1 HB.out GE330.out)) : w.heap.size ≤ gb332)); have n5_ := Aside0.mk ((by rw [hg]; exact Nat.ne_of_lt (blk_lt (g := gb330) (o := .cells #[.string ((rd_T39 l0 x5_1).f0), .bool ((rd_T39 l0 x5_1).f1), .int .i64 ((rd_T39 l0 x5_1).f2), .slice A329_3 ((rd_T39 l0 x5_1).f3).length c329_3] 39 (0, 0)) (by (with_reducible repeat (first | refine blk_drewN ?_ _ | refine blk_drew ?_ | refine blk_alloc ?_ _)); refine blk_put (cs := #[.string ((rd_T39 l0 x5_1).f0), .bool ((rd_T39 l0 x5_1).f1), .int .i64 ((rd_T39 l0 x5_1).f2), .slice none 0 0]) ?_ 3 _ rfl; (with_reducible repeat (first | refine blk_drewN ?_ _ | refine blk_drew ?_ | refine blk_alloc ?_ _)); refine blk_put (cs := #[.string ((rd_T39 l0 x5_1).f0), .bool ((rd_T39 l0 x5_1).f1), .int .i64 0, .slice none 0 0]) ?_ 2 _ rfl; (with_reducible repeat (first | refine blk_drewN ?_ _ | refine blk_drew ?_ | refine blk_alloc ?_ _)); refine blk_put (cs := #[.string ((rd_T39 l0 x5_1).f0), .bool false, .int .i64 0, .slice none 0 0]) ?_ 1 _ rfl; (with_reducible repeat (first | refine blk_drewN ?_ _ | refine blk_drew ?_ | refine blk_alloc ?_ _)); refine blk_put (cs := #[.string (⟨#[]⟩ : ByteArray), .bool false, .int .i64 0, .slice none 0 0]) ?_ 0 _ rfl; (with_reducible repeat (first | refine blk_drewN ?_ _ | refine blk_drew ?_ | refine blk_alloc ?_ _)); exact BK330.out)) : gb330 ≠ gb332)); have n6_ := Aside0.mk ((by rw [hg]; exact Nat.ne_of_gt (blk_lt (g := gb330) (o := .cells #[.string ((rd_T39 l0 x5_1).f0), .bool ((rd_T39 l0 x5_1).f1), .int .i64 ((rd_T39 l0 x5_1).f2), .slice A329_3 ((rd_T39 l0 x5_1).f3).length c329_3] 39 (0, 0)) (by (with_reducible repeat (first | refine blk_drewN ?_ _ | refine blk_drew ?_ | refine blk_alloc ?_ _)); refine blk_put (cs := #[.string ((rd_T39 l0 x5_1).f0), .bool ((rd_T39 l0 x5_1).f1), .int .i64 ((rd_T39 l0 x5_1).f2), .slice none 0 0]) ?_ 3 _ rfl; (with_reducible repeat (first | refine blk_drewN ?_ _ | refine blk_drew ?_ | refine blk_alloc ?_ _)); refine blk_put (cs := #[.string ((rd_T39 l0 x5_1).f0), .bool ((rd_T39 l0 x5_1).f1), .int .i64 0, .slice none 0 0]) ?_ 2 _ rfl; (with_reducible repeat (first | refine blk_drewN ?_ _ | refine blk_drew ?_ | refine blk_alloc ?_ _)); refine blk_put (cs := #[.string ((rd_T39 l0 x5_1).f0), .bool false, .int .i64 0, .slice none 0 0]) ?_ 1 _ rfl; (with_reducible repeat (first | refine blk_drewN ?_ _ | refine blk_drew ?_ | refine blk_alloc ?_ _)); refine blk_put (cs := #[.string (⟨#[]⟩ : ByteArray), .bool false, .int .i64 0, .slice none 0 0]) ?_ 0 _ rfl; (with_reducible repeat (first | refine blk_drewN ?_ _ | refine blk_drew ?_ | refine blk_alloc ?_ _)); exact BK330.out)) : gb332 ≠ gb330)); clear BK330 HB; have BK330 := n0_; have HB := n1_; have BK332 := n2_; have GW332 := n3_; have GE332 := n4_; have NB330_332 := n5_; have NB332_330 := n6_; clear n0_ n1_ n2_ n3_ n4_ n5_ n6_ hb hbox hg; have hnb11 := NB332_330.out; have hnc11 := NB330_332.out; have hcz12 := qC4 BK332.out))
       repeat (go_quiet (first | ((with_reducible refine gate_dst (N := 6) rfl ?_); (try (refine gate_guard (by rfl) ?_; dsimp only)); refine box_event ?hg (N := 6) ?hd (cs := #[.string (⟨#[]⟩ : ByteArray), .bool false, .int .i64 0, .slice none 0 0]) (t := 39) ?hr ?_; (case hd => rfl); (case hg => rfl); (case hr => first | (go_simp; done) | (go_simp; rfl)); intro gb330 hg w8 hbox hb; have n0_ := Aside0.mk (below_step (qB HB.out) hb); have n1_ := Aside0.mk (hbox); have n2_ := Aside0.mk ((qs hg (below_size (qB HB.out)) : w.heap.size ≤ gb330)); have n3_ := Aside0.mk ((qs hg (below_size (qB HB.out)) : w.heap.size ≤ gb330)); clear HB; have HB := n0_; have BK330 := n1_; have GW330 := n2_; have GE330 := n3_; clear n0_ n1_ n2_ n3_ hb hbox hg; have hcz9 := qC4 BK330.out; have p331 : 0 ≤ (x5_1 : Int) := of_decide_eq_true qA; have q331 : x5_1 < (l1.length : Int) := of_decide_eq_true qA; obtain ⟨ad331, A331_3, c331_3, e331, hx331_0, hx331_1, hx331_2, hx331_3, hl331_3, hi331_3⟩ := at_T39 HR1.out x5_1 p331 q331; cases e331; have hn331_0 : ad331.block ≠ gb330 := Nat.ne_of_lt (Nat.lt_of_lt_of_le (by have := World.block_lt_of_cell? _ _ hx331_0; first | rwa [add_block] at this | exact this) GW330.out); have hn331_1 : ad331.block ≠ gb330 := Nat.ne_of_lt (Nat.lt_of_lt_of_le (by have := World.block_lt_of_cell? _ _ hx331_0; first | rwa [add_block] at this | exact this) GW330.out); have hn331_2 : ad331.block ≠ gb330 := Nat.ne_of_lt (Nat.lt_of_lt_of_le (by have := World.block_lt_of_cell? _ _ hx331_0; first | rwa [add_block] at this | exact this) GW330.out); have hn331_3 : ad331.block ≠ gb330 := Nat.ne_of_lt (Nat.lt_of_lt_of_le (by have := World.block_lt_of_cell? _ _ hx331_0; first | rwa [add_block] at this | exact this) GW330.out); replace hx331_0 := (HB.out.cell (World.block_lt_of_cell? w _ hx331_0)).trans hx331_0; replace hx331_1 := (HB.out.cell (World.block_lt_of_cell? w _ hx331_1)).trans hx331_1; replace hx331_2 := (HB.out.cell (World.block_lt_of_cell? w _ hx331_2)).trans hx331_2; replace hx331_3 := (HB.out.cell (World.block_lt_of_cell? w _ hx331_3)).trans hx331_3; have HR331_3 := Aside0.mk hi331_3; have HC331_3 := Aside0.mk hl331_3; clear hi331_3 hl331_3; replace hx331_0 := (cell_far (p := ⟨gb330, 0, none⟩) (by first | (rw [add_block]; exact hn331_0) | (show (Addr.add _ _).block ≠ _; rw [add_block]; exact hn331_0) | exact hn331_0) (.string ((rd_T39 l0 x5_1).f0))).trans hx331_0; replace hx331_1 := (cell_far (p := ⟨gb330, 0, none⟩) (by first | (rw [add_block]; exact hn331_0) | (show (Addr.add _ _).block ≠ _; rw [add_block]; exact hn331_0) | exact hn331_0) (.string ((rd_T39 l0 x5_1).f0))).trans hx331_1; replace hx331_2 := (cell_far (p := ⟨gb330, 0, none⟩) (by first | (rw [add_block]; exact hn331_0) | (show (Addr.add _ _).block ≠ _; rw [add_block]; exact hn331_0) | exact hn331_0) (.string ((rd_T39 l0 x5_1).f0))).trans hx331_2; replace hx331_3 := (cell_far (p := ⟨gb330, 0, none⟩) (by first | (rw [add_block]; exact hn331_0) | (show (Addr.add _ _).block ≠ _; rw [add_block]; exact hn331_0) | exact hn331_0) (.string ((rd_T39 l0 x5_1).f0))).trans hx331_3; replace hx331_0 := (cell_far (p := ⟨gb330, 1, none⟩) (by first | (rw [add_block]; exact hn331_1) | (show (Addr.add _ _).block ≠ _; rw [add_block]; exact hn331_1) | exact hn331_1) (.bool ((rd_T39 l0 x5_1).f1))).trans hx331_0; replace hx331_1 := (cell_far (p := ⟨gb330, 1, none⟩) (by first | (rw [add_block]; exact hn331_1) | (show (Addr.add _ _).block ≠ _; rw [add_block]; exact hn331_1) | exact hn331_1) (.bool ((rd_T39 l0 x5_1).f1))).trans hx331_1; replace hx331_2 := (cell_far (p := ⟨gb330, 1, none⟩) (by first | (rw [add_block]; exact hn331_1) | (show (Addr.add _ _).block ≠ _; rw [add_block]; exact hn331_1) | exact hn331_1) (.bool ((rd_T39 l0 x5_1).f1))).trans hx331_2; replace hx331_3 := (cell_far (p := ⟨gb330, 1, none⟩) (by first | (rw [add_block]; exact hn331_1) | (show (Addr.add _ _).block ≠ _; rw [add_block]; exact hn331_1) | exact hn331_1) (.bool ((rd_T39 l0 x5_1).f1))).trans hx331_3; replace hx331_0 := (cell_far (p := ⟨gb330, 2, none⟩) (by first | (rw [add_block]; exact hn331_2) | (show (Addr.add _ _).block ≠ _; rw [add_block]; exact hn331_2) | exact hn331_2) (.int .i64 ((rd_T39 l0 x5_1).f2))).trans hx331_0; replace hx331_1 := (cell_far (p := ⟨gb330, 2, none⟩) (by first | (rw [add_block]; exact hn331_2) | (show (Addr.add _ _).block ≠ _; rw [add_block]; exact hn331_2) | exact hn331_2) (.int .i64 ((rd_T39 l0 x5_1).f2))).trans hx331_1; replace hx331_2 := (cell_far (p := ⟨gb330, 2, none⟩) (by first | (rw [add_block]; exact hn331_2) | (show (Addr.add _ _).block ≠ _; rw [add_block]; exact hn331_2) | exact hn331_2) (.int .i64 ((rd_T39 l0 x5_1).f2))).trans hx331_2; replace hx331_3 := (cell_far (p := ⟨gb330, 2, none⟩) (by first | (rw [add_block]; exact hn331_2) | (show (Addr.add _ _).block ≠ _; rw [add_block]; exact hn331_2) | exact hn331_2) (.int .i64 ((rd_T39 l0 x5_1).f2))).trans hx331_3; replace hx331_0 := (cell_far (p := ⟨gb330, 3, none⟩) (by first | (rw [add_block]; exact hn331_3) | (show (Addr.add _ _).block ≠ _; rw [add_block]; exact hn331_3) | exact hn331_3) (.slice A329_3 ((rd_T39 l0 x5_1).f3).length c329_3)).trans hx331_0; replace hx331_1 := (cell_far (p := ⟨gb330, 3, none⟩) (by first | (rw [add_block]; exact hn331_3) | (show (Addr.add _ _).block ≠ _; rw [add_block]; exact hn331_3) | exact hn331_3) (.slice A329_3 ((rd_T39 l0 x5_1).f3).length c329_3)).trans hx331_1; replace hx331_2 := (cell_far (p := ⟨gb330, 3, none⟩) (by first | (rw [add_block]; exact hn331_3) | (show (Addr.add _ _).block ≠ _; rw [add_block]; exact hn331_3) | exact hn331_3) (.slice A329_3 ((rd_T39 l0 x5_1).f3).length c329_3)).trans hx331_2; replace hx331_3 := (cell_far (p := ⟨gb330, 3, none⟩) (by first | (rw [add_block]; exact hn331_3) | (show (Addr.add _ _).block ≠ _; rw [add_block]; exact hn331_3) | exact hn331_3) (.slice A329_3 ((rd_T39 l0 x5_1).f3).length c329_3)).trans hx331_3; (try have hy331_0 := fun (n_ : Nat) => (show ((((((w8.drewN n_).setCell ⟨gb330, 0, none⟩ (.string ((rd_T39 l0 x5_1).f0))).setCell ⟨gb330, 1, none⟩ (.bool ((rd_T39 l0 x5_1).f1))).setCell ⟨gb330, 2, none⟩ (.int .i64 ((rd_T39 l0 x5_1).f2))).setCell ⟨gb330, 3, none⟩ (.slice A329_3 ((rd_T39 l0 x5_1).f3).length c329_3))).cell? _ = some _ from hx331_0)); (try have hy331_1 := fun (n_ : Nat) => (show ((((((w8.drewN n_).setCell ⟨gb330, 0, none⟩ (.string ((rd_T39 l0 x5_1).f0))).setCell ⟨gb330, 1, none⟩ (.bool ((rd_T39 l0 x5_1).f1))).setCell ⟨gb330, 2, none⟩ (.int .i64 ((rd_T39 l0 x5_1).f2))).setCell ⟨gb330, 3, none⟩ (.slice A329_3 ((rd_T39 l0 x5_1).f3).length c329_3))).cell? _ = some _ from hx331_1)); (try have hy331_2 := fun (n_ : Nat) => (show ((((((w8.drewN n_).setCell ⟨gb330, 0, none⟩ (.string ((rd_T39 l0 x5_1).f0))).setCell ⟨gb330, 1, none⟩ (.bool ((rd_T39 l0 x5_1).f1))).setCell ⟨gb330, 2, none⟩ (.int .i64 ((rd_T39 l0 x5_1).f2))).setCell ⟨gb330, 3, none⟩ (.slice A329_3 ((rd_T39 l0 x5_1).f3).length c329_3))).cell? _ = some _ from hx331_2)); (try have hy331_3 := fun (n_ : Nat) => (show ((((((w8.drewN n_).setCell ⟨gb330, 0, none⟩ (.string ((rd_T39 l0 x5_1).f0))).setCell ⟨gb330, 1, none⟩ (.bool ((rd_T39 l0 x5_1).f1))).setCell ⟨gb330, 2, none⟩ (.int .i64 ((rd_T39 l0 x5_1).f2))).setCell ⟨gb330, 3, none⟩ (.slice A329_3 ((rd_T39 l0 x5_1).f3).length c329_3))).cell? _ = some _ from hx331_3)); clear hn331_0 hn331_1 hn331_2 hn331_3; replace p331 := eq_true p331; replace q331 := eq_true q331) | ((with_reducible refine gate_dst (N := 7) rfl ?_); (try (refine gate_guard (by rfl) ?_; dsimp only)); refine box_event ?hg (N := 7) ?hd (cs := #[.string (⟨#[]⟩ : ByteArray), .bool false, .int .i64 0, .slice none 0 0]) (t := 39) ?hr ?_; (case hd => rfl); (case hg => rfl); (case hr => first | (go_simp; done) | (go_simp; rfl)); intro gb332 hg w10 hbox hb; have n0_ := Aside0.mk (blk_below (g := gb330) (o := .cells #[.string ((rd_T39 l0 x5_1).f0), .bool ((rd_T39 l0 x5_1).f1), .int .i64 ((rd_T39 l0 x5_1).f2), .slice A329_3 ((rd_T39 l0 x5_1).f3).length c329_3] 39 (0, 0)) (by (with_reducible repeat (first | refine blk_drewN ?_ _ | refine blk_drew ?_ | refine blk_alloc ?_ _)); refine blk_put (cs := #[.string ((rd_T39 l0 x5_1).f0), .bool ((rd_T39 l0 x5_1).f1), .int .i64 ((rd_T39 l0 x5_1).f2), .slice none 0 0]) ?_ 3 _ rfl; (with_reducible repeat (first | refine blk_drewN ?_ _ | refine blk_drew ?_ | refine blk_alloc ?_ _)); refine blk_put (cs := #[.string ((rd_T39 l0 x5_1).f0), .bool ((rd_T39 l0 x5_1).f1), .int .i64 0, .slice none 0 0]) ?_ 2 _ rfl; (with_reducible repeat (first | refine blk_drewN ?_ _ | refine blk_drew ?_ | refine blk_alloc ?_ _)); refine blk_put (cs := #[.string ((rd_T39 l0 x5_1).f0), .bool false, .int .i64 0, .slice none 0 0]) ?_ 1 _ rfl; (with_reducible repeat (first | refine blk_drewN ?_ _ | refine blk_drew ?_ | refine blk_alloc ?_ _)); refine blk_put (cs := #[.string (⟨#[]⟩ : ByteArray), .bool false, .int .i64 0, .slice none 0 0]) ?_ 0 _ rfl; (with_reducible repeat (first | refine blk_drewN ?_ _ | refine blk_drew ?_ | refine blk_alloc ?_ _)); exact BK330.out) hb); have n1_ := Aside0.mk (below_step (qB1 HB.out GE330.out) hb); have n2_ := Aside0.mk (hbox); have n3_ := Aside0.mk ((qs hg (below_size (qB1 HB.out GE330.out)) : w.heap.size ≤ gb332)); have n4_ := Aside0.mk ((qs hg (below_size (qB1 HB.out GE330.out)) : w.heap.size ≤ gb332)); have n5_ := Aside0.mk ((by rw [hg]; exact Nat.ne_of_lt (blk_lt (g := gb330) (o := .cells #[.string ((rd_T39 l0 x5_1).f0), .bool ((rd_T39 l0 x5_1).f1), .int .i64 ((rd_T39 l0 x5_1).f2), .slice A329_3 ((rd_T39 l0 x5_1).f3).length c329_3] 39 (0, 0)) (by (with_reducible repeat (first | refine blk_drewN ?_ _ | refine blk_drew ?_ | refine blk_alloc ?_ _)); refine blk_put (cs := #[.string ((rd_T39 l0 x5_1).f0), .bool ((rd_T39 l0 x5_1).f1), .int .i64 ((rd_T39 l0 x5_1).f2), .slice none 0 0]) ?_ 3 _ rfl; (with_reducible repeat (first | refine blk_drewN ?_ _ | refine blk_drew ?_ | refine blk_alloc ?_ _)); refine blk_put (cs := #[.string ((rd_T39 l0 x5_1).f0), .bool ((rd_T39 l0 x5_1).f1), .int .i64 0, .slice none 0 0]) ?_ 2 _ rfl; (with_reducible repeat (first | refine blk_drewN ?_ _ | refine blk_drew ?_ | refine blk_alloc ?_ _)); refine blk_put (cs := #[.string ((rd_T39 l0 x5_1).f0), .bool false, .int .i64 0, .slice none 0 0]) ?_ 1 _ rfl; (with_reducible repeat (first | refine blk_drewN ?_ _ | refine blk_drew ?_ | refine blk_alloc ?_ _)); refine blk_put (cs := #[.string (⟨#[]⟩ : ByteArray), .bool false, .int .i64 0, .slice none 0 0]) ?_ 0 _ rfl; (with_reducible repeat (first | refine blk_drewN ?_ _ | refine blk_drew ?_ | refine blk_alloc ?_ _)); exact BK330.out)) : gb330 ≠ gb332)); have n6_ := Aside0.mk ((by rw [hg]; exact Nat.ne_of_gt (blk_lt (g := gb330) (o := .cells #[.string ((rd_T39 l0 x5_1).f0), .bool ((rd_T39 l0 x5_1).f1), .int .i64 ((rd_T39 l0 x5_1).f2), .slice A329_3 ((rd_T39 l0 x5_1).f3).length c329_3] 39 (0, 0)) (by (with_reducible repeat (first | refine blk_drewN ?_ _ | refine blk_drew ?_ | refine blk_alloc ?_ _)); refine blk_put (cs := #[.string ((rd_T39 l0 x5_1).f0), .bool ((rd_T39 l0 x5_1).f1), .int .i64 ((rd_T39 l0 x5_1).f2), .slice none 0 0]) ?_ 3 _ rfl; (with_reducible repeat (first | refine blk_drewN ?_ _ | refine blk_drew ?_ | refine blk_alloc ?_ _)); refine blk_put (cs := #[.string ((rd_T39 l0 x5_1).f0), .bool ((rd_T39 l0 x5_1).f1), .int .i64 0, .slice none 0 0]) ?_ 2 _ rfl; (with_reducible repeat (first | refine blk_drewN ?_ _ | refine blk_drew ?_ | refine blk_alloc ?_ _)); refine blk_put (cs := #[.string ((rd_T39 l0 x5_1).f0), .bool false, .int .i64 0, .slice none 0 0]) ?_ 1 _ rfl; (with_reducible repeat (first | refine blk_drewN ?_ _ | refine blk_drew ?_ | refine blk_alloc ?_ _)); refine blk_put (cs := #[.string (⟨#[]⟩ : ByteArray), .bool false, .int .i64 0, .slice none 0 0]) ?_ 0 _ rfl; (with_reducible repeat (first | refine blk_drewN ?_ _ | refine blk_drew ?_ | refine blk_alloc ?_ _)); exact BK330.out)) : gb332 ≠ gb330)); clear BK330 HB; have BK330 := n0_; have HB := n1_; have BK332 := n2_; have GW332 := n3_; have GE332 := n4_; have NB330_332 := n5_; have NB332_330 := n6_; clear n0_ n1_ n2_ n3_ n4_ n5_ n6_ hb hbox hg; have hnb11 := NB332_330.out; have hnc11 := NB330_332.out; have hcz12 := qC4 BK332.out)); go_upto_region 8 with (first | ((with_reducible refine gate_dst (N := 6) rfl ?_); (try (refine gate_guard (by rfl) ?_; dsimp only)); refine box_event ?hg (N := 6) ?hd (cs := #[.string (⟨#[]⟩ : ByteArray), .bool false, .int .i64 0, .slice none 0 0]) (t := 39) ?hr ?_; (case hd => rfl); (case hg => rfl); (case hr => first | (go_simp; done) | (go_simp; rfl)); intro gb330 hg w8 hbox hb; have n0_ := Aside0.mk (below_step (qB HB.out) hb); have n1_ := Aside0.mk (hbox); have n2_ := Aside0.mk ((qs hg (below_size (qB HB.out)) : w.heap.size ≤ gb330)); have n3_ := Aside0.mk ((qs hg (below_size (qB HB.out)) : w.heap.size ≤ gb330)); clear HB; have HB := n0_; have BK330 := n1_; have GW330 := n2_; have GE330 := n3_; clear n0_ n1_ n2_ n3_ hb hbox hg; have hcz9 := qC4 BK330.out; have p331 : 0 ≤ (x5_1 : Int) := of_decide_eq_true qA; have q331 : x5_1 < (l1.length : Int) := of_decide_eq_true qA; obtain ⟨ad331, A331_3, c331_3, e331, hx331_0, hx331_1, hx331_2, hx331_3, hl331_3, hi331_3⟩ := at_T39 HR1.out x5_1 p331 q331; cases e331; have hn331_0 : ad331.block ≠ gb330 := Nat.ne_of_lt (Nat.lt_of_lt_of_le (by have := World.block_lt_of_cell? _ _ hx331_0; first | rwa [add_block] at this | exact this) GW330.out); have hn331_1 : ad331.block ≠ gb330 := Nat.ne_of_lt (Nat.lt_of_lt_of_le (by have := World.block_lt_of_cell? _ _ hx331_0; first | rwa [add_block] at this | exact this) GW330.out); have hn331_2 : ad331.block ≠ gb330 := Nat.ne_of_lt (Nat.lt_of_lt_of_le (by have := World.block_lt_of_cell? _ _ hx331_0; first | rwa [add_block] at this | exact this) GW330.out); have hn331_3 : ad331.block ≠ gb330 := Nat.ne_of_lt (Nat.lt_of_lt_of_le (by have := World.block_lt_of_cell? _ _ hx331_0; first | rwa [add_block] at this | exact this) GW330.out); replace hx331_0 := (HB.out.cell (World.block_lt_of_cell? w _ hx331_0)).trans hx331_0; replace hx331_1 := (HB.out.cell (World.block_lt_of_cell? w _ hx331_1)).trans hx331_1; replace hx331_2 := (HB.out.cell (World.block_lt_of_cell? w _ hx331_2)).trans hx331_2; replace hx331_3 := (HB.out.cell (World.block_lt_of_cell? w _ hx331_3)).trans hx331_3; have HR331_3 := Aside0.mk hi331_3; have HC331_3 := Aside0.mk hl331_3; clear hi331_3 hl331_3; replace hx331_0 := (cell_far (p := ⟨gb330, 0, none⟩) (by first | (rw [add_block]; exact hn331_0) | (show (Addr.add _ _).block ≠ _; rw [add_block]; exact hn331_0) | exact hn331_0) (.string ((rd_T39 l0 x5_1).f0))).trans hx331_0; replace hx331_1 := (cell_far (p := ⟨gb330, 0, none⟩) (by first | (rw [add_block]; exact hn331_0) | (show (Addr.add _ _).block ≠ _; rw [add_block]; exact hn331_0) | exact hn331_0) (.string ((rd_T39 l0 x5_1).f0))).trans hx331_1; replace hx331_2 := (cell_far (p := ⟨gb330, 0, none⟩) (by first | (rw [add_block]; exact hn331_0) | (show (Addr.add _ _).block ≠ _; rw [add_block]; exact hn331_0) | exact hn331_0) (.string ((rd_T39 l0 x5_1).f0))).trans hx331_2; replace hx331_3 := (cell_far (p := ⟨gb330, 0, none⟩) (by first | (rw [add_block]; exact hn331_0) | (show (Addr.add _ _).block ≠ _; rw [add_block]; exact hn331_0) | exact hn331_0) (.string ((rd_T39 l0 x5_1).f0))).trans hx331_3; replace hx331_0 := (cell_far (p := ⟨gb330, 1, none⟩) (by first | (rw [add_block]; exact hn331_1) | (show (Addr.add _ _).block ≠ _; rw [add_block]; exact hn331_1) | exact hn331_1) (.bool ((rd_T39 l0 x5_1).f1))).trans hx331_0; replace hx331_1 := (cell_far (p := ⟨gb330, 1, none⟩) (by first | (rw [add_block]; exact hn331_1) | (show (Addr.add _ _).block ≠ _; rw [add_block]; exact hn331_1) | exact hn331_1) (.bool ((rd_T39 l0 x5_1).f1))).trans hx331_1; replace hx331_2 := (cell_far (p := ⟨gb330, 1, none⟩) (by first | (rw [add_block]; exact hn331_1) | (show (Addr.add _ _).block ≠ _; rw [add_block]; exact hn331_1) | exact hn331_1) (.bool ((rd_T39 l0 x5_1).f1))).trans hx331_2; replace hx331_3 := (cell_far (p := ⟨gb330, 1, none⟩) (by first | (rw [add_block]; exact hn331_1) | (show (Addr.add _ _).block ≠ _; rw [add_block]; exact hn331_1) | exact hn331_1) (.bool ((rd_T39 l0 x5_1).f1))).trans hx331_3; replace hx331_0 := (cell_far (p := ⟨gb330, 2, none⟩) (by first | (rw [add_block]; exact hn331_2) | (show (Addr.add _ _).block ≠ _; rw [add_block]; exact hn331_2) | exact hn331_2) (.int .i64 ((rd_T39 l0 x5_1).f2))).trans hx331_0; replace hx331_1 := (cell_far (p := ⟨gb330, 2, none⟩) (by first | (rw [add_block]; exact hn331_2) | (show (Addr.add _ _).block ≠ _; rw [add_block]; exact hn331_2) | exact hn331_2) (.int .i64 ((rd_T39 l0 x5_1).f2))).trans hx331_1; replace hx331_2 := (cell_far (p := ⟨gb330, 2, none⟩) (by first | (rw [add_block]; exact hn331_2) | (show (Addr.add _ _).block ≠ _; rw [add_block]; exact hn331_2) | exact hn331_2) (.int .i64 ((rd_T39 l0 x5_1).f2))).trans hx331_2; replace hx331_3 := (cell_far (p := ⟨gb330, 2, none⟩) (by first | (rw [add_block]; exact hn331_2) | (show (Addr.add _ _).block ≠ _; rw [add_block]; exact hn331_2) | exact hn331_2) (.int .i64 ((rd_T39 l0 x5_1).f2))).trans hx331_3; replace hx331_0 := (cell_far (p := ⟨gb330, 3, none⟩) (by first | (rw [add_block]; exact hn331_3) | (show (Addr.add _ _).block ≠ _; rw [add_block]; exact hn331_3) | exact hn331_3) (.slice A329_3 ((rd_T39 l0 x5_1).f3).length c329_3)).trans hx331_0; replace hx331_1 := (cell_far (p := ⟨gb330, 3, none⟩) (by first | (rw [add_block]; exact hn331_3) | (show (Addr.add _ _).block ≠ _; rw [add_block]; exact hn331_3) | exact hn331_3) (.slice A329_3 ((rd_T39 l0 x5_1).f3).length c329_3)).trans hx331_1; replace hx331_2 := (cell_far (p := ⟨gb330, 3, none⟩) (by first | (rw [add_block]; exact hn331_3) | (show (Addr.add _ _).block ≠ _; rw [add_block]; exact hn331_3) | exact hn331_3) (.slice A329_3 ((rd_T39 l0 x5_1).f3).length c329_3)).trans hx331_2; replace hx331_3 := (cell_far (p := ⟨gb330, 3, none⟩) (by first | (rw [add_block]; exact hn331_3) | (show (Addr.add _ _).block ≠ _; rw [add_block]; exact hn331_3) | exact hn331_3) (.slice A329_3 ((rd_T39 l0 x5_1).f3).length c329_3)).trans hx331_3; (try have hy331_0 := fun (n_ : Nat) => (show ((((((w8.drewN n_).setCell ⟨gb330, 0, none⟩ (.string ((rd_T39 l0 x5_1).f0))).setCell ⟨gb330, 1, none⟩ (.bool ((rd_T39 l0 x5_1).f1))).setCell ⟨gb330, 2, none⟩ (.int .i64 ((rd_T39 l0 x5_1).f2))).setCell ⟨gb330, 3, none⟩ (.slice A329_3 ((rd_T39 l0 x5_1).f3).length c329_3))).cell? _ = some _ from hx331_0)); (try have hy331_1 := fun (n_ : Nat) => (show ((((((w8.drewN n_).setCell ⟨gb330, 0, none⟩ (.string ((rd_T39 l0 x5_1).f0))).setCell ⟨gb330, 1, none⟩ (.bool ((rd_T39 l0 x5_1).f1))).setCell ⟨gb330, 2, none⟩ (.int .i64 ((rd_T39 l0 x5_1).f2))).setCell ⟨gb330, 3, none⟩ (.slice A329_3 ((rd_T39 l0 x5_1).f3).length c329_3))).cell? _ = some _ from hx331_1)); (try have hy331_2 := fun (n_ : Nat) => (show ((((((w8.drewN n_).setCell ⟨gb330, 0, none⟩ (.string ((rd_T39 l0 x5_1).f0))).setCell ⟨gb330, 1, none⟩ (.bool ((rd_T39 l0 x5_1).f1))).setCell ⟨gb330, 2, none⟩ (.int .i64 ((rd_T39 l0 x5_1).f2))).setCell ⟨gb330, 3, none⟩ (.slice A329_3 ((rd_T39 l0 x5_1).f3).length c329_3))).cell? _ = some _ from hx331_2)); (try have hy331_3 := fun (n_ : Nat) => (show ((((((w8.drewN n_).setCell ⟨gb330, 0, none⟩ (.string ((rd_T39 l0 x5_1).f0))).setCell ⟨gb330, 1, none⟩ (.bool ((rd_T39 l0 x5_1).f1))).setCell ⟨gb330, 2, none⟩ (.int .i64 ((rd_T39 l0 x5_1).f2))).setCell ⟨gb330, 3, none⟩ (.slice A329_3 ((rd_T39 l0 x5_1).f3).length c329_3))).cell? _ = some _ from hx331_3)); clear hn331_0 hn331_1 hn331_2 hn331_3; replace p331 := eq_true p331; replace q331 := eq_true q331) | ((with_reducible refine gate_dst (N := 7) rfl ?_); (try (refine gate_guard (by rfl) ?_; dsimp only)); refine box_event ?hg (N := 7) ?hd (cs := #[.string (⟨#[]⟩ : ByteArray), .bool false, .int .i64 0, .slice none 0 0]) (t := 39) ?hr ?_; (case hd => rfl); (case hg => rfl); (case hr => first | (go_simp; done) | (go_simp; rfl)); intro gb332 hg w10 hbox hb; have n0_ := Aside0.mk (blk_below (g := gb330) (o := .cells #[.string ((rd_T39 l0 x5_1).f0), .bool ((rd_T39 l0 x5_1).f1), .int .i64 ((rd_T39 l0 x5_1).f2), .slice A329_3 ((rd_T39 l0 x5_1).f3).length c329_3] 39 (0, 0)) (by (with_reducible repeat (first | refine blk_drewN ?_ _ | refine blk_drew ?_ | refine blk_alloc ?_ _)); refine blk_put (cs := #[.string ((rd_T39 l0 x5_1).f0), .bool ((rd_T39 l0 x5_1).f1), .int .i64 ((rd_T39 l0 x5_1).f2), .slice none 0 0]) ?_ 3 _ rfl; (with_reducible repeat (first | refine blk_drewN ?_ _ | refine blk_drew ?_ | refine blk_alloc ?_ _)); refine blk_put (cs := #[.string ((rd_T39 l0 x5_1).f0), .bool ((rd_T39 l0 x5_1).f1), .int .i64 0, .slice none 0 0]) ?_ 2 _ rfl; (with_reducible repeat (first | refine blk_drewN ?_ _ | refine blk_drew ?_ | refine blk_alloc ?_ _)); refine blk_put (cs := #[.string ((rd_T39 l0 x5_1).f0), .bool false, .int .i64 0, .slice none 0 0]) ?_ 1 _ rfl; (with_reducible repeat (first | refine blk_drewN ?_ _ | refine blk_drew ?_ | refine blk_alloc ?_ _)); refine blk_put (cs := #[.string (⟨#[]⟩ : ByteArray), .bool false, .int .i64 0, .slice none 0 0]) ?_ 0 _ rfl; (with_reducible repeat (first | refine blk_drewN ?_ _ | refine blk_drew ?_ | refine blk_alloc ?_ _)); exact BK330.out) hb); have n1_ := Aside0.mk (below_step (qB1 HB.out GE330.out) hb); have n2_ := Aside0.mk (hbox); have n3_ := Aside0.mk ((qs hg (below_size (qB1 HB.out GE330.out)) : w.heap.size ≤ gb332)); have n4_ := Aside0.mk ((qs hg (below_size (qB1 HB.out GE330.out)) : w.heap.size ≤ gb332)); have n5_ := Aside0.mk ((by rw [hg]; exact Nat.ne_of_lt (blk_lt (g := gb330) (o := .cells #[.string ((rd_T39 l0 x5_1).f0), .bool ((rd_T39 l0 x5_1).f1), .int .i64 ((rd_T39 l0 x5_1).f2), .slice A329_3 ((rd_T39 l0 x5_1).f3).length c329_3] 39 (0, 0)) (by (with_reducible repeat (first | refine blk_drewN ?_ _ | refine blk_drew ?_ | refine blk_alloc ?_ _)); refine blk_put (cs := #[.string ((rd_T39 l0 x5_1).f0), .bool ((rd_T39 l0 x5_1).f1), .int .i64 ((rd_T39 l0 x5_1).f2), .slice none 0 0]) ?_ 3 _ rfl; (with_reducible repeat (first | refine blk_drewN ?_ _ | refine blk_drew ?_ | refine blk_alloc ?_ _)); refine blk_put (cs := #[.string ((rd_T39 l0 x5_1).f0), .bool ((rd_T39 l0 x5_1).f1), .int .i64 0, .slice none 0 0]) ?_ 2 _ rfl; (with_reducible repeat (first | refine blk_drewN ?_ _ | refine blk_drew ?_ | refine blk_alloc ?_ _)); refine blk_put (cs := #[.string ((rd_T39 l0 x5_1).f0), .bool false, .int .i64 0, .slice none 0 0]) ?_ 1 _ rfl; (with_reducible repeat (first | refine blk_drewN ?_ _ | refine blk_drew ?_ | refine blk_alloc ?_ _)); refine blk_put (cs := #[.string (⟨#[]⟩ : ByteArray), .bool false, .int .i64 0, .slice none 0 0]) ?_ 0 _ rfl; (with_reducible repeat (first | refine blk_drewN ?_ _ | refine blk_drew ?_ | refine blk_alloc ?_ _)); exact BK330.out)) : gb330 ≠ gb332)); have n6_ := Aside0.mk ((by rw [hg]; exact Nat.ne_of_gt (blk_lt (g := gb330) (o := .cells #[.string ((rd_T39 l0 x5_1).f0), .bool ((rd_T39 l0 x5_1).f1), .int .i64 ((rd_T39 l0 x5_1).f2), .slice A329_3 ((rd_T39 l0 x5_1).f3).length c329_3] 39 (0, 0)) (by (with_reducible repeat (first | refine blk_drewN ?_ _ | refine blk_drew ?_ | refine blk_alloc ?_ _)); refine blk_put (cs := #[.string ((rd_T39 l0 x5_1).f0), .bool ((rd_T39 l0 x5_1).f1), .int .i64 ((rd_T39 l0 x5_1).f2), .slice none 0 0]) ?_ 3 _ rfl; (with_reducible repeat (first | refine blk_drewN ?_ _ | refine blk_drew ?_ | refine blk_alloc ?_ _)); refine blk_put (cs := #[.string ((rd_T39 l0 x5_1).f0), .bool ((rd_T39 l0 x5_1).f1), .int .i64 0, .slice none 0 0]) ?_ 2 _ rfl; (with_reducible repeat (first | refine blk_drewN ?_ _ | refine blk_drew ?_ | refine blk_alloc ?_ _)); refine blk_put (cs := #[.string ((rd_T39 l0 x5_1).f0), .bool false, .int .i64 0, .slice none 0 0]) ?_ 1 _ rfl; (with_reducible repeat (first | refine blk_drewN ?_ _ | refine blk_drew ?_ | refine blk_alloc ?_ _)); refine blk_put (cs := #[.string (⟨#[]⟩ : ByteArray), .bool false, .int .i64 0, .slice none 0 0]) ?_ 0 _ rfl; (with_reducible repeat (first | refine blk_drewN ?_ _ | refine blk_drew ?_ | refine blk_alloc ?_ _)); exact BK330.out)) : gb332 ≠ gb330)); clear BK330 HB; have BK330 := n0_; have HB := n1_; have BK332 := n2_; have GW332 := n3_; have GE332 := n4_; have NB330_332 := n5_; have NB332_330 := n6_; clear n0_ n1_ n2_ n3_ n4_ n5_ n6_ hb hbox hg; have hnb11 := NB332_330.out; have hnc11 := NB330_332.out; have hcz12 := qC4 BK332.out)))
       (try simp only [Act.put, List.setIfInBounds_toArray, List.set_cons_zero, List.set_cons_succ])
       go_cut [55] (fun v55 wc => ∃ (kq : Nat) (x55_6 : Bool), v55 = .bool x55_6 ∧ Aside0 (chicaneref14_Same.j1 kq l0 l1 x5_1 x55_6 ((rd_T39 l0 x5_1).f0) ((rd_T39 l0 x5_1).f1) ((rd_T39 l0 x5_1).f2) ((rd_T39 l0 x5_1).f3) ((rd_T39 l1 x5_1).f0) ((rd_T39 l1 x5_1).f1) ((rd_T39 l1 x5_1).f2) ((rd_T39 l1 x5_1).f3) = some r) ∧ Aside0 (kq ≤ k1) ∧ Aside0 (wc.heap[gb330]? = some (.cells #[.string ((rd_T39 l0 x5_1).f0), .bool ((rd_T39 l0 x5_1).f1), .int .i64 ((rd_T39 l0 x5_1).f2), (.slice A329_3 ((rd_T39 l0 x5_1).f3).length c329_3)] 39 (0, 0))) ∧ Aside0 (wc.heap[gb332]? = some (.cells #[.string ((rd_T39 l1 x5_1).f0), .bool ((rd_T39 l1 x5_1).f1), .int .i64 ((rd_T39 l1 x5_1).f2), (.slice A331_3 ((rd_T39 l1 x5_1).f3).length c331_3)] 39 (0, 0))) ∧ Aside0 (Below w.heap.size w wc))
       case first =>
        have H := HC7.out
        clear HC7
        by_cases c13 : ((rd_T39 l0 x5_1).f0).toList = ((rd_T39 l1 x5_1).f0).toList
        ·rw [if_pos c13] at H
         have c13b0 : (((rd_T39 l0 x5_1).f0).toList == ((rd_T39 l1 x5_1).f0).toList) = true := beq_iff_eq.mpr c13
         have c13b1 : (((rd_T39 l0 x5_1).f0).toList != ((rd_T39 l1 x5_1).f0).toList) = false := bne_eq_false_iff_eq.mpr c13
         clear c13
         (first | rw [c13b0] | (simp only [i64_w, i32_w]; rw [c13b0]) | skip)
         by_cases c14 : (((rd_T39 l0 x5_1).f1) != ((rd_T39 l1 x5_1).f1)) = true
         ·rw [if_pos c14] at H
          have c14b0 : (((rd_T39 l0 x5_1).f1) != ((rd_T39 l1 x5_1).f1)) = true := c14
          (try (have c14b1 : decide (((rd_T39 l0 x5_1).f1) = ((rd_T39 l1 x5_1).f1)) = false := by simpa using c14))
          (try (have c14b2 : (((rd_T39 l0 x5_1).f1) == ((rd_T39 l1 x5_1).f1)) = false := by simpa using c14))
          (try (have c14b3 : ¬ (((rd_T39 l0 x5_1).f1) = ((rd_T39 l1 x5_1).f1)) := by simpa using c14))
          clear c14
          have H' := Aside0.mk H
          clear H
          have hnb15 := NB330_332.out
          have hnc15 := NB332_330.out
          have hcz16 := qC4 BK330.out
          have hcz17 := qC4 BK332.out
          go_wp2
          repeat (go_quiet (fail); try go_wp2)
          go_meet
          case rel => exact ⟨_, (true), qE1, H', ⟨by have := HK1.out; first | omega | exact Nat.le_refl _⟩, ⟨by (with_reducible repeat (first | refine blk_drewN ?_ _ | refine blk_drew ?_ | refine blk_alloc ?_ _)); refine blk_far ?_ NB330_332.out _; (with_reducible repeat (first | refine blk_drewN ?_ _ | refine blk_drew ?_ | refine blk_alloc ?_ _)); refine blk_far ?_ NB330_332.out _; (with_reducible repeat (first | refine blk_drewN ?_ _ | refine blk_drew ?_ | refine blk_alloc ?_ _)); refine blk_far ?_ NB330_332.out _; (with_reducible repeat (first | refine blk_drewN ?_ _ | refine blk_drew ?_ | refine blk_alloc ?_ _)); refine blk_far ?_ NB330_332.out _; (with_reducible repeat (first | refine blk_drewN ?_ _ | refine blk_drew ?_ | refine blk_alloc ?_ _)); exact BK330.out⟩, ⟨by (with_reducible repeat (first | refine blk_drewN ?_ _ | refine blk_drew ?_ | refine blk_alloc ?_ _)); refine blk_put (cs := #[.string ((rd_T39 l1 x5_1).f0), .bool ((rd_T39 l1 x5_1).f1), .int .i64 ((rd_T39 l1 x5_1).f2), .slice none 0 0]) ?_ 3 _ rfl; (with_reducible repeat (first | refine blk_drewN ?_ _ | refine blk_drew ?_ | refine blk_alloc ?_ _)); refine blk_put (cs := #[.string ((rd_T39 l1 x5_1).f0), .bool ((rd_T39 l1 x5_1).f1), .int .i64 0, .slice none 0 0]) ?_ 2 _ rfl; (with_reducible repeat (first | refine blk_drewN ?_ _ | refine blk_drew ?_ | refine blk_alloc ?_ _)); refine blk_put (cs := #[.string ((rd_T39 l1 x5_1).f0), .bool false, .int .i64 0, .slice none 0 0]) ?_ 1 _ rfl; (with_reducible repeat (first | refine blk_drewN ?_ _ | refine blk_drew ?_ | refine blk_alloc ?_ _)); refine blk_put (cs := #[.string (⟨#[]⟩ : ByteArray), .bool false, .int .i64 0, .slice none 0 0]) ?_ 0 _ rfl; (with_reducible repeat (first | refine blk_drewN ?_ _ | refine blk_drew ?_ | refine blk_alloc ?_ _)); exact BK332.out⟩, ⟨by repeat (first | (with_reducible first | exact HB.out | apply below_alloc | apply pw_below_drewN | apply below_drew1 | refine below_set ?_ GE330.out | refine below_set ?_ GE332.out) | exact HB.out)⟩⟩
         ·rw [if_neg c14] at H
          have c14b0 : (((rd_T39 l0 x5_1).f1) != ((rd_T39 l1 x5_1).f1)) = false := by simpa using c14
          (try (have c14b1 : decide (((rd_T39 l0 x5_1).f1) = ((rd_T39 l1 x5_1).f1)) = true := by simpa using c14))
          (try (have c14b2 : (((rd_T39 l0 x5_1).f1) == ((rd_T39 l1 x5_1).f1)) = true := by simpa using c14))
          clear c14
          by_cases c18 : ((rd_T39 l0 x5_1).f2) = ((rd_T39 l1 x5_1).f2)
          ·rw [if_pos c18] at H
           have c18b0 : (((rd_T39 l0 x5_1).f2) == ((rd_T39 l1 x5_1).f2)) = true := beq_iff_eq.mpr c18
           have c18b1 : (((rd_T39 l0 x5_1).f2) != ((rd_T39 l1 x5_1).f2)) = false := bne_eq_false_iff_eq.mpr c18
           clear c18
           have H' := Aside0.mk H
           clear H
           have hnb19 := NB330_332.out
           have hnc19 := NB332_330.out
           have hcz20 := qC4 BK330.out
           have hcz21 := qC4 BK332.out
           go_wp2
           repeat (go_quiet (fail); try go_wp2)
           go_meet
           case rel => exact ⟨_, (((((rd_T39 l0 x5_1).f3).length : Int) != (((rd_T39 l1 x5_1).f3).length : Int))), qE1, H', ⟨by have := HK1.out; first | omega | exact Nat.le_refl _⟩, ⟨by (with_reducible repeat (first | refine blk_drewN ?_ _ | refine blk_drew ?_ | refine blk_alloc ?_ _)); refine blk_far ?_ NB330_332.out _; (with_reducible repeat (first | refine blk_drewN ?_ _ | refine blk_drew ?_ | refine blk_alloc ?_ _)); refine blk_far ?_ NB330_332.out _; (with_reducible repeat (first | refine blk_drewN ?_ _ | refine blk_drew ?_ | refine blk_alloc ?_ _)); refine blk_far ?_ NB330_332.out _; (with_reducible repeat (first | refine blk_drewN ?_ _ | refine blk_drew ?_ | refine blk_alloc ?_ _)); refine blk_far ?_ NB330_332.out _; (with_reducible repeat (first | refine blk_drewN ?_ _ | refine blk_drew ?_ | refine blk_alloc ?_ _)); exact BK330.out⟩, ⟨by (with_reducible repeat (first | refine blk_drewN ?_ _ | refine blk_drew ?_ | refine blk_alloc ?_ _)); refine blk_put (cs := #[.string ((rd_T39 l1 x5_1).f0), .bool ((rd_T39 l1 x5_1).f1), .int .i64 ((rd_T39 l1 x5_1).f2), .slice none 0 0]) ?_ 3 _ rfl; (with_reducible repeat (first | refine blk_drewN ?_ _ | refine blk_drew ?_ | refine blk_alloc ?_ _)); refine blk_put (cs := #[.string ((rd_T39 l1 x5_1).f0), .bool ((rd_T39 l1 x5_1).f1), .int .i64 0, .slice none 0 0]) ?_ 2 _ rfl; (with_reducible repeat (first | refine blk_drewN ?_ _ | refine blk_drew ?_ | refine blk_alloc ?_ _)); refine blk_put (cs := #[.string ((rd_T39 l1 x5_1).f0), .bool false, .int .i64 0, .slice none 0 0]) ?_ 1 _ rfl; (with_reducible repeat (first | refine blk_drewN ?_ _ | refine blk_drew ?_ | refine blk_alloc ?_ _)); refine blk_put (cs := #[.string (⟨#[]⟩ : ByteArray), .bool false, .int .i64 0, .slice none 0 0]) ?_ 0 _ rfl; (with_reducible repeat (first | refine blk_drewN ?_ _ | refine blk_drew ?_ | refine blk_alloc ?_ _)); exact BK332.out⟩, ⟨by repeat (first | (with_reducible first | exact HB.out | apply below_alloc | apply pw_below_drewN | apply below_drew1 | refine below_set ?_ GE330.out | refine below_set ?_ GE332.out) | exact HB.out)⟩⟩
          ·rw [if_neg c18] at H
           have c18b0 : (((rd_T39 l0 x5_1).f2) == ((rd_T39 l1 x5_1).f2)) = false := beq_eq_false_iff_ne.mpr c18
           have c18b1 : (((rd_T39 l0 x5_1).f2) != ((rd_T39 l1 x5_1).f2)) = true := bne_iff_ne.mpr c18
           have H' := Aside0.mk H
           clear H
           have hnb22 := NB330_332.out
           have hnc22 := NB332_330.out
           have hcz23 := qC4 BK330.out
           have hcz24 := qC4 BK332.out
           go_wp2
           repeat (go_quiet (fail); try go_wp2)
           go_meet
           case rel => exact ⟨_, (true), qE1, H', ⟨by have := HK1.out; first | omega | exact Nat.le_refl _⟩, ⟨by (with_reducible repeat (first | refine blk_drewN ?_ _ | refine blk_drew ?_ | refine blk_alloc ?_ _)); refine blk_far ?_ NB330_332.out _; (with_reducible repeat (first | refine blk_drewN ?_ _ | refine blk_drew ?_ | refine blk_alloc ?_ _)); refine blk_far ?_ NB330_332.out _; (with_reducible repeat (first | refine blk_drewN ?_ _ | refine blk_drew ?_ | refine blk_alloc ?_ _)); refine blk_far ?_ NB330_332.out _; (with_reducible repeat (first | refine blk_drewN ?_ _ | refine blk_drew ?_ | refine blk_alloc ?_ _)); refine blk_far ?_ NB330_332.out _; (with_reducible repeat (first | refine blk_drewN ?_ _ | refine blk_drew ?_ | refine blk_alloc ?_ _)); exact BK330.out⟩, ⟨by (with_reducible repeat (first | refine blk_drewN ?_ _ | refine blk_drew ?_ | refine blk_alloc ?_ _)); refine blk_put (cs := #[.string ((rd_T39 l1 x5_1).f0), .bool ((rd_T39 l1 x5_1).f1), .int .i64 ((rd_T39 l1 x5_1).f2), .slice none 0 0]) ?_ 3 _ rfl; (with_reducible repeat (first | refine blk_drewN ?_ _ | refine blk_drew ?_ | refine blk_alloc ?_ _)); refine blk_put (cs := #[.string ((rd_T39 l1 x5_1).f0), .bool ((rd_T39 l1 x5_1).f1), .int .i64 0, .slice none 0 0]) ?_ 2 _ rfl; (with_reducible repeat (first | refine blk_drewN ?_ _ | refine blk_drew ?_ | refine blk_alloc ?_ _)); refine blk_put (cs := #[.string ((rd_T39 l1 x5_1).f0), .bool false, .int .i64 0, .slice none 0 0]) ?_ 1 _ rfl; (with_reducible repeat (first | refine blk_drewN ?_ _ | refine blk_drew ?_ | refine blk_alloc ?_ _)); refine blk_put (cs := #[.string (⟨#[]⟩ : ByteArray), .bool false, .int .i64 0, .slice none 0 0]) ?_ 0 _ rfl; (with_reducible repeat (first | refine blk_drewN ?_ _ | refine blk_drew ?_ | refine blk_alloc ?_ _)); exact BK332.out⟩, ⟨by repeat (first | (with_reducible first | exact HB.out | apply below_alloc | apply pw_below_drewN | apply below_drew1 | refine below_set ?_ GE330.out | refine below_set ?_ GE332.out) | exact HB.out)⟩⟩
        ·rw [if_neg c13] at H
         have c13b0 : (((rd_T39 l0 x5_1).f0).toList == ((rd_T39 l1 x5_1).f0).toList) = false := beq_eq_false_iff_ne.mpr c13
         have c13b1 : (((rd_T39 l0 x5_1).f0).toList != ((rd_T39 l1 x5_1).f0).toList) = true := bne_iff_ne.mpr c13
         (first | rw [c13b0] | (simp only [i64_w, i32_w]; rw [c13b0]) | skip)
         have H' := Aside0.mk H
         clear H
         have hnb25 := NB330_332.out
         have hnc25 := NB332_330.out
         have hcz26 := qC4 BK330.out
         have hcz27 := qC4 BK332.out
         go_wp2
         repeat (go_quiet (fail); try go_wp2)
         go_meet
         case rel => exact ⟨_, (true), qE1, H', ⟨by have := HK1.out; first | omega | exact Nat.le_refl _⟩, ⟨by (with_reducible repeat (first | refine blk_drewN ?_ _ | refine blk_drew ?_ | refine blk_alloc ?_ _)); refine blk_far ?_ NB330_332.out _; (with_reducible repeat (first | refine blk_drewN ?_ _ | refine blk_drew ?_ | refine blk_alloc ?_ _)); refine blk_far ?_ NB330_332.out _; (with_reducible repeat (first | refine blk_drewN ?_ _ | refine blk_drew ?_ | refine blk_alloc ?_ _)); refine blk_far ?_ NB330_332.out _; (with_reducible repeat (first | refine blk_drewN ?_ _ | refine blk_drew ?_ | refine blk_alloc ?_ _)); refine blk_far ?_ NB330_332.out _; (with_reducible repeat (first | refine blk_drewN ?_ _ | refine blk_drew ?_ | refine blk_alloc ?_ _)); exact BK330.out⟩, ⟨by (with_reducible repeat (first | refine blk_drewN ?_ _ | refine blk_drew ?_ | refine blk_alloc ?_ _)); refine blk_put (cs := #[.string ((rd_T39 l1 x5_1).f0), .bool ((rd_T39 l1 x5_1).f1), .int .i64 ((rd_T39 l1 x5_1).f2), .slice none 0 0]) ?_ 3 _ rfl; (with_reducible repeat (first | refine blk_drewN ?_ _ | refine blk_drew ?_ | refine blk_alloc ?_ _)); refine blk_put (cs := #[.string ((rd_T39 l1 x5_1).f0), .bool ((rd_T39 l1 x5_1).f1), .int .i64 0, .slice none 0 0]) ?_ 2 _ rfl; (with_reducible repeat (first | refine blk_drewN ?_ _ | refine blk_drew ?_ | refine blk_alloc ?_ _)); refine blk_put (cs := #[.string ((rd_T39 l1 x5_1).f0), .bool false, .int .i64 0, .slice none 0 0]) ?_ 1 _ rfl; (with_reducible repeat (first | refine blk_drewN ?_ _ | refine blk_drew ?_ | refine blk_alloc ?_ _)); refine blk_put (cs := #[.string (⟨#[]⟩ : ByteArray), .bool false, .int .i64 0, .slice none 0 0]) ?_ 0 _ rfl; (with_reducible repeat (first | refine blk_drewN ?_ _ | refine blk_drew ?_ | refine blk_alloc ?_ _)); exact BK332.out⟩, ⟨by repeat (first | (with_reducible first | exact HB.out | apply below_alloc | apply pw_below_drewN | apply below_drew1 | refine below_set ?_ GE330.out | refine below_set ?_ GE332.out) | exact HB.out)⟩⟩
       case rest =>
        clear HC7
        try clear c1
        try clear c2
        try clear p2
        try clear c3
        try clear c3b0
        try clear c3b1
        try clear c3b2
        try clear c3b3
        try clear p3
        try clear q3
        try clear hx3
        try clear c4
        try clear c4b0
        try clear c5
        try clear c5b0
        try clear c6
        try clear c6b0
        try clear c11
        try clear c13
        try clear c13b0
        try clear c13b1
        try clear c14
        try clear c14b0
        try clear c14b1
        try clear c14b2
        try clear c14b3
        try clear c15
        try clear c18
        try clear c18b0
        try clear c18b1
        try clear c19
        try clear c22
        try clear c25
        try clear hcz12
        try clear hcz16
        try clear hcz17
        try clear hcz20
        try clear hcz21
        try clear hcz23
        try clear hcz24
        try clear hcz26
        try clear hcz27
        try clear hcz9
        try clear hx329_0
        try clear hx329_1
        try clear hx329_2
        try clear hx329_3
        try clear hx331_0
        try clear hx331_1
        try clear hx331_2
        try clear hx331_3
        try clear p2
        try clear p329
        try clear p331
        try clear q329
        try clear q331
        obtain ⟨kq, x55_6, rfl, HA, HJ6, BK330, BK332, HB⟩ := hcut
        cases kq with
        | zero => exact absurd HA.out (by simp [chicaneref14_Same.j1])
        | succ kj6 =>
         have H := HA.out
         clear HA
         simp only [chicaneref14_Same.j1] at H
         by_cases c28 : x55_6 = true
         ·subst c28
          have H1 : (some false) = some r := by rw [if_pos rfl] at H; exact H
          clear H
          have H := H1
          clear H1
          obtain rfl := Option.some.inj H
          go_wp2
          repeat (go_quiet (fail); try go_wp2)
          go_ret
          exact ⟨qE, by repeat (first | (with_reducible first | exact HB.out | apply below_alloc | apply pw_below_drewN | apply below_drew1 | refine below_set ?_ GE330.out | refine below_set ?_ GE332.out) | exact HB.out)⟩
         ·replace c28 := Bool.eq_false_iff.mpr c28
          subst c28
          have H1 : (chicaneref14_Same.l1 kj6 l0 l1 x5_1 0 ((rd_T39 l0 x5_1).f0) ((rd_T39 l0 x5_1).f1) ((rd_T39 l0 x5_1).f2) ((rd_T39 l0 x5_1).f3) ((rd_T39 l1 x5_1).f0) ((rd_T39 l1 x5_1).f1) ((rd_T39 l1 x5_1).f2) ((rd_T39 l1 x5_1).f3)) = some r := by rw [if_neg (show ¬ (false = true) by decide)] at H; exact H
          clear H
          have H := H1
          clear H1
          have H' := Aside0.mk H
          clear H
          go_wp2
          repeat (go_quiet (fail); try go_wp2)
          go_loopg [8] kj6 (fun kq v8 w' => ∃ (x8_3 : Int), v8 = .int .i64 x8_3 ∧ Aside0 (chicaneref14_Same.l1 kq l0 l1 x5_1 x8_3 ((rd_T39 l0 x5_1).f0) ((rd_T39 l0 x5_1).f1) ((rd_T39 l0 x5_1).f2) ((rd_T39 l0 x5_1).f3) ((rd_T39 l1 x5_1).f0) ((rd_T39 l1 x5_1).f1) ((rd_T39 l1 x5_1).f2) ((rd_T39 l1 x5_1).f3) = some r) ∧ Aside0 (kq ≤ kj6) ∧ Aside0 (w'.heap[gb330]? = some (.cells #[.string ((rd_T39 l0 x5_1).f0), .bool ((rd_T39 l0 x5_1).f1), .int .i64 ((rd_T39 l0 x5_1).f2), (.slice A329_3 ((rd_T39 l0 x5_1).f3).length c329_3)] 39 (0, 0))) ∧ Aside0 (w'.heap[gb332]? = some (.cells #[.string ((rd_T39 l1 x5_1).f0), .bool ((rd_T39 l1 x5_1).f1), .int .i64 ((rd_T39 l1 x5_1).f2), (.slice A331_3 ((rd_T39 l1 x5_1).f3).length c331_3)] 39 (0, 0))) ∧ Aside0 (Below w.heap.size w w'))
          case atStart => exact ⟨(0), qE1, H', ⟨Nat.le_refl _⟩, ⟨by (with_reducible repeat (first | refine blk_drewN ?_ _ | refine blk_drew ?_ | refine blk_alloc ?_ _)); exact BK330.out⟩, ⟨by (with_reducible repeat (first | refine blk_drewN ?_ _ | refine blk_drew ?_ | refine blk_alloc ?_ _)); exact BK332.out⟩, ⟨by repeat (first | (with_reducible first | exact HB.out | apply below_alloc | apply pw_below_drewN | apply below_drew1 | refine below_set ?_ GE330.out | refine below_set ?_ GE332.out) | exact HB.out)⟩⟩
          case round =>
           clear H'
           try clear c1
           try clear c2
           try clear p2
           try clear c3
           try clear c3b0
           try clear c3b1
           try clear c3b2
           try clear c3b3
           try clear p3
           try clear q3
           try clear hx3
           try clear c4
           try clear c4b0
           try clear c5
           try clear c5b0
           try clear c6
           try clear c6b0
           try clear c11
           try clear c13
           try clear c13b0
           try clear c13b1
           try clear c14
           try clear c14b0
           try clear c14b1
           try clear c14b2
           try clear c14b3
           try clear c15
           try clear c18
           try clear c18b0
           try clear c18b1
           try clear c19
           try clear c22
           try clear c25
           try clear c28
           try clear hcz12
           try clear hcz16
           try clear hcz17
           try clear hcz20
           try clear hcz21
           try clear hcz23
           try clear hcz24
           try clear hcz26
           try clear hcz27
           try clear hcz9
           try clear hx329_0
           try clear hx329_1
           try clear hx329_2
           try clear hx329_3
           try clear hx331_0
           try clear hx331_1
           try clear hx331_2
           try clear hx331_3
           try clear p2
           try clear p3
           try clear p329
           try clear p331
           try clear q3
           try clear q329
           try clear q331
           obtain ⟨x8_3, rfl, HA, HK3, BK330, BK332, HB⟩ := hrel
           cases gk with
           | zero => exact absurd HA.out (by simp [chicaneref14_Same.l1])
           | succ k3 =>
            have H := HA.out
            clear HA
            simp only [chicaneref14_Same.l1] at H
            by_cases c29 : x8_3 < (((rd_T39 l0 x5_1).f3).length : Int)
            ·rw [if_pos c29] at H
             have c29b0 : decide (x8_3 < (((rd_T39 l0 x5_1).f3).length : Int)) = true := decide_eq_true c29
             clear c29
             by_cases c30 : 0 ≤ x8_3
             ·rw [if_pos c30] at H
              have c30b0 : decide (0 ≤ x8_3) = true := decide_eq_true c30
              clear c30
              by_cases c31 : x8_3 < (((rd_T39 l1 x5_1).f3).length : Int)
              ·rw [if_pos c31] at H
               have c31b0 : decide (x8_3 < (((rd_T39 l1 x5_1).f3).length : Int)) = true := decide_eq_true c31
               clear c31
               by_cases c32 : (!((((rd_T24 ((rd_T39 l0 x5_1).f3) x8_3).f0).toList) == (((rd_T24 ((rd_T39 l1 x5_1).f3) x8_3).f0).toList)) || (!(((rd_T24 ((rd_T39 l0 x5_1).f3) x8_3).f1) == ((rd_T24 ((rd_T39 l1 x5_1).f3) x8_3).f1)) || (!(((rd_T24 ((rd_T39 l0 x5_1).f3) x8_3).f2) == ((rd_T24 ((rd_T39 l1 x5_1).f3) x8_3).f2)) || (!(((rd_T24 ((rd_T39 l0 x5_1).f3) x8_3).f3) == ((rd_T24 ((rd_T39 l1 x5_1).f3) x8_3).f3)) || (!(((rd_T24 ((rd_T39 l0 x5_1).f3) x8_3).f4) == ((rd_T24 ((rd_T39 l1 x5_1).f3) x8_3).f4)) || (!(((rd_T24 ((rd_T39 l0 x5_1).f3) x8_3).f5) == ((rd_T24 ((rd_T39 l1 x5_1).f3) x8_3).f5)))))))) = true
               ·rw [if_pos c32] at H
                have c32b0 : (!((((rd_T24 ((rd_T39 l0 x5_1).f3) x8_3).f0).toList) == (((rd_T24 ((rd_T39 l1 x5_1).f3) x8_3).f0).toList)) || (!(((rd_T24 ((rd_T39 l0 x5_1).f3) x8_3).f1) == ((rd_T24 ((rd_T39 l1 x5_1).f3) x8_3).f1)) || (!(((rd_T24 ((rd_T39 l0 x5_1).f3) x8_3).f2) == ((rd_T24 ((rd_T39 l1 x5_1).f3) x8_3).f2)) || (!(((rd_T24 ((rd_T39 l0 x5_1).f3) x8_3).f3) == ((rd_T24 ((rd_T39 l1 x5_1).f3) x8_3).f3)) || (!(((rd_T24 ((rd_T39 l0 x5_1).f3) x8_3).f4) == ((rd_T24 ((rd_T39 l1 x5_1).f3) x8_3).f4)) || (!(((rd_T24 ((rd_T39 l0 x5_1).f3) x8_3).f5) == ((rd_T24 ((rd_T39 l1 x5_1).f3) x8_3).f5)))))))) = true := c32
                clear c32
                obtain rfl := Option.some.inj H
                have hnb33 := NB330_332.out
                have hnc33 := NB332_330.out
                have hcz34 := qC4 BK330.out
                have p333 : 0 ≤ (x8_3 : Int) := of_decide_eq_true qA
                have q333 : x8_3 < (((rd_T39 l0 x5_1).f3).length : Int) := of_decide_eq_true qA
                obtain ⟨ad333, e333, hx333_0, hx333_1, hx333_2, hx333_3, hx333_4, hx333_5⟩ := at_T24 HR329_3.out x8_3 p333 q333
                cases e333
                replace hx333_0 := (HB.out.cell (World.block_lt_of_cell? w _ hx333_0)).trans hx333_0
                replace hx333_1 := (HB.out.cell (World.block_lt_of_cell? w _ hx333_1)).trans hx333_1
                replace hx333_2 := (HB.out.cell (World.block_lt_of_cell? w _ hx333_2)).trans hx333_2
                replace hx333_3 := (HB.out.cell (World.block_lt_of_cell? w _ hx333_3)).trans hx333_3
                replace hx333_4 := (HB.out.cell (World.block_lt_of_cell? w _ hx333_4)).trans hx333_4
                replace hx333_5 := (HB.out.cell (World.block_lt_of_cell? w _ hx333_5)).trans hx333_5
                replace p333 := eq_true p333
                replace q333 := eq_true q333
                have hcz35 := qC4 BK332.out
                have p334 : 0 ≤ (x8_3 : Int) := of_decide_eq_true qA
                have q334 : x8_3 < (((rd_T39 l1 x5_1).f3).length : Int) := of_decide_eq_true qA
                obtain ⟨ad334, e334, hx334_0, hx334_1, hx334_2, hx334_3, hx334_4, hx334_5⟩ := at_T24 HR331_3.out x8_3 p334 q334
                cases e334
                replace hx334_0 := (HB.out.cell (World.block_lt_of_cell? w _ hx334_0)).trans hx334_0
                replace hx334_1 := (HB.out.cell (World.block_lt_of_cell? w _ hx334_1)).trans hx334_1
                replace hx334_2 := (HB.out.cell (World.block_lt_of_cell? w _ hx334_2)).trans hx334_2
                replace hx334_3 := (HB.out.cell (World.block_lt_of_cell? w _ hx334_3)).trans hx334_3
                replace hx334_4 := (HB.out.cell (World.block_lt_of_cell? w _ hx334_4)).trans hx334_4
                replace hx334_5 := (HB.out.cell (World.block_lt_of_cell? w _ hx334_5)).trans hx334_5
                replace p334 := eq_true p334
                replace q334 := eq_true q334
                go_wp2
                repeat (go_quiet (fail); try go_wp2)
                go_ret
                exact ⟨qE, by repeat (first | (with_reducible first | exact HB.out | apply below_alloc | apply pw_below_drewN | apply below_drew1 | refine below_set ?_ GE330.out | refine below_set ?_ GE332.out) | exact HB.out)⟩
               ·rw [if_neg c32] at H
                have c32b0 : (!((((rd_T24 ((rd_T39 l0 x5_1).f3) x8_3).f0).toList) == (((rd_T24 ((rd_T39 l1 x5_1).f3) x8_3).f0).toList)) || (!(((rd_T24 ((rd_T39 l0 x5_1).f3) x8_3).f1) == ((rd_T24 ((rd_T39 l1 x5_1).f3) x8_3).f1)) || (!(((rd_T24 ((rd_T39 l0 x5_1).f3) x8_3).f2) == ((rd_T24 ((rd_T39 l1 x5_1).f3) x8_3).f2)) || (!(((rd_T24 ((rd_T39 l0 x5_1).f3) x8_3).f3) == ((rd_T24 ((rd_T39 l1 x5_1).f3) x8_3).f3)) || (!(((rd_T24 ((rd_T39 l0 x5_1).f3) x8_3).f4) == ((rd_T24 ((rd_T39 l1 x5_1).f3) x8_3).f4)) || (!(((rd_T24 ((rd_T39 l0 x5_1).f3) x8_3).f5) == ((rd_T24 ((rd_T39 l1 x5_1).f3) x8_3).f5)))))))) = false := by simpa using c32
                clear c32
                have H' := Aside0.mk H
                clear H
                have hnb36 := NB330_332.out
                have hnc36 := NB332_330.out
                have hcz37 := qC4 BK330.out
                have p333 : 0 ≤ (x8_3 : Int) := of_decide_eq_true qA
                have q333 : x8_3 < (((rd_T39 l0 x5_1).f3).length : Int) := of_decide_eq_true qA
                obtain ⟨ad333, e333, hx333_0, hx333_1, hx333_2, hx333_3, hx333_4, hx333_5⟩ := at_T24 HR329_3.out x8_3 p333 q333
                cases e333
                replace hx333_0 := (HB.out.cell (World.block_lt_of_cell? w _ hx333_0)).trans hx333_0
                replace hx333_1 := (HB.out.cell (World.block_lt_of_cell? w _ hx333_1)).trans hx333_1
                replace hx333_2 := (HB.out.cell (World.block_lt_of_cell? w _ hx333_2)).trans hx333_2
                replace hx333_3 := (HB.out.cell (World.block_lt_of_cell? w _ hx333_3)).trans hx333_3
                replace hx333_4 := (HB.out.cell (World.block_lt_of_cell? w _ hx333_4)).trans hx333_4
                replace hx333_5 := (HB.out.cell (World.block_lt_of_cell? w _ hx333_5)).trans hx333_5
                replace p333 := eq_true p333
                replace q333 := eq_true q333
                have hcz38 := qC4 BK332.out
                have p334 : 0 ≤ (x8_3 : Int) := of_decide_eq_true qA
                have q334 : x8_3 < (((rd_T39 l1 x5_1).f3).length : Int) := of_decide_eq_true qA
                obtain ⟨ad334, e334, hx334_0, hx334_1, hx334_2, hx334_3, hx334_4, hx334_5⟩ := at_T24 HR331_3.out x8_3 p334 q334
                cases e334
                replace hx334_0 := (HB.out.cell (World.block_lt_of_cell? w _ hx334_0)).trans hx334_0
                replace hx334_1 := (HB.out.cell (World.block_lt_of_cell? w _ hx334_1)).trans hx334_1
                replace hx334_2 := (HB.out.cell (World.block_lt_of_cell? w _ hx334_2)).trans hx334_2
                replace hx334_3 := (HB.out.cell (World.block_lt_of_cell? w _ hx334_3)).trans hx334_3
                replace hx334_4 := (HB.out.cell (World.block_lt_of_cell? w _ hx334_4)).trans hx334_4
                replace hx334_5 := (HB.out.cell (World.block_lt_of_cell? w _ hx334_5)).trans hx334_5
                replace p334 := eq_true p334
                replace q334 := eq_true q334
                go_wp2
                repeat (go_quiet (fail); try go_wp2)
                go_roundg k3
                case measure => have := HK1.out; have := HJ6.out; have := HK3.out; omega
                case rel => exact ⟨(wrap64 (x8_3 + 1)), qE1, H', ⟨by have := HK1.out; have := HJ6.out; have := HK3.out; omega⟩, ⟨by (with_reducible repeat (first | refine blk_drewN ?_ _ | refine blk_drew ?_ | refine blk_alloc ?_ _)); exact BK330.out⟩, ⟨by (with_reducible repeat (first | refine blk_drewN ?_ _ | refine blk_drew ?_ | refine blk_alloc ?_ _)); exact BK332.out⟩, ⟨by repeat (first | (with_reducible first | exact HB.out | apply below_alloc | apply pw_below_drewN | apply below_drew1 | refine below_set ?_ GE330.out | refine below_set ?_ GE332.out) | exact HB.out)⟩⟩
              ·rw [if_neg c31] at H
               exact absurd H (by simp)
             ·rw [if_neg c30] at H
              exact absurd H (by simp)
            ·rw [if_neg c29] at H
             have c29b0 : decide (x8_3 < (((rd_T39 l0 x5_1).f3).length : Int)) = false := decide_eq_false c29
             clear c29
             have H' := Aside0.mk H
             clear H
             have hnb39 := NB330_332.out
             have hnc39 := NB332_330.out
             have hcz40 := qC4 BK330.out
             go_wp2
             repeat (go_quiet (fail); try go_wp2)
             go_roundg k3
             case measure => have := HK1.out; have := HJ6.out; have := HK3.out; omega
             case rel => exact ⟨(wrap64 (x5_1 + 1)), qE1, H', ⟨by have := HK1.out; have := HJ6.out; have := HK3.out; omega⟩, ⟨by repeat (first | (with_reducible first | exact HB.out | apply below_alloc | apply pw_below_drewN | apply below_drew1 | refine below_set ?_ GE330.out | refine below_set ?_ GE332.out) | exact HB.out)⟩⟩
      ·rw [if_neg c6] at H
       exact absurd H (by simp)
     ·rw [if_neg c5] at H
      exact absurd H (by simp)
    ·rw [if_neg c4] at H
     have c4b0 : decide (x5_1 < (l0.length : Int)) = false := decide_eq_false c4
     clear c4
     obtain rfl := Option.some.inj H
     go_wp2
     repeat (go_quiet (fail); try go_wp2)
     go_ret
     exact ⟨qE, by repeat (first | (with_reducible first | exact HB.out | apply below_alloc | apply pw_below_drewN | apply below_drew1) | exact HB.out)⟩
 ·rw [if_neg c3] at H
  have c3b0 : ((l0.length : Int) == (l1.length : Int)) = false := beq_eq_false_iff_ne.mpr c3
  have c3b1 : ((l0.length : Int) != (l1.length : Int)) = true := bne_iff_ne.mpr c3
  have c3b2 : (l0.length == l1.length) = false := by first | simpa using c3 | (simp at c3 ⊢; omega)
  obtain rfl := Option.some.inj H
  go_enter Tryz.func11, Tryz.ntmps11
  go_wp2
  repeat (go_quiet (fail); try go_wp2)
  go_ret
  exact ⟨qE, by repeat (first | (with_reducible first | exact HB.out | apply below_alloc | apply pw_below_drewN | apply below_drew1) | exact HB.out)⟩
end Go.Proofs.YtlglbpjccpdloaaGreat.PNamA
set_option linter.unusedVariables false
set_option linter.unusedSimpArgs false
namespace Go.Proofs.YtlglbpjccpdloaaGreat.Ext
open Go.RowKit Go.Proofs.YtlglbpjccpdloaaGreat.PNamA Go.Proofs.YtlglbpjccpdloaaGreatW.PrintWords Go.Proofs.YtlglbpjccpdloaaGreatW.PrintLast
def eqT (x y : S24) : Bool := decide (x.f0 = y.f0) && (x.f1 == y.f1 && (x.f2 == y.f2 && (x.f3 == y.f3 && (x.f4 == y.f4 && x.f5 == y.f5))))
theorem eqT_iff (x y : S24) : eqT x y = true ↔ x = y := by
  cases x; cases y
  simp [eqT]
def eqTL : List S24 → List S24 → Bool
  | [], [] => true
  | x :: r, y :: s => eqT x y && eqTL r s
  | _, _ => false
theorem eqTL_iff : ∀ (a b : List S24), eqTL a b = true ↔ a = b
  | [], [] => by simp [eqTL]
  | [], _ :: _ => by simp [eqTL]
  | _ :: _, [] => by simp [eqTL]
  | x :: r, y :: s => by simp [eqTL, eqT_iff, eqTL_iff r s]
def eqP (x y : S39) : Bool := decide (x.f0 = y.f0) && (x.f1 == y.f1 && (x.f2 == y.f2 && eqTL x.f3 y.f3))
theorem eqP_iff (x y : S39) : eqP x y = true ↔ x = y := by
  cases x; cases y
  simp [eqP, eqTL_iff]
def eqPL : List S39 → List S39 → Bool
  | [], [] => true
  | x :: r, y :: s => eqP x y && eqPL r s
  | _, _ => false
theorem eqPL_iff : ∀ (a b : List S39), eqPL a b = true ↔ a = b
  | [], [] => by simp [eqPL]
  | [], _ :: _ => by simp [eqPL]
  | _ :: _, [] => by simp [eqPL]
  | x :: r, y :: s => by simp [eqPL, eqP_iff, eqPL_iff r s]
theorem eqTL_len {a b : List S24} (h : a.length ≠ b.length) : eqTL a b = false := by
  cases hb : eqTL a b with
  | false => rfl
  | true => exact absurd (by rw [(eqTL_iff a b).1 hb]) h
theorem eqPL_len {a b : List S39} (h : a.length ≠ b.length) : eqPL a b = false := by
  cases hb : eqPL a b with
  | false => rfl
  | true => exact absurd (by rw [(eqPL_iff a b).1 hb]) h
def names_Same.f (a b : List S39) : Option Bool := some (eqPL a b)
theorem eqTox_l0 (a b : List S24) (hab : a.length = b.length) (hm : a.length ≤ 9223372036854775807) : ∀ (k i : Nat), a.length - i < k → i ≤ a.length →
    slices_Equal_api_Toxic_api_Toxic.l0 k a b (a.length : Int) (i : Int) = some (eqTL (a.drop i) (b.drop i)) := by
  intro k
  induction k with
  | zero => intro i h; omega
  | succ k ih =>
    intro i h hi
    unfold slices_Equal_api_Toxic_api_Toxic.l0
    by_cases hl : i < a.length
    · have hlb : i < b.length := by omega
      rw [if_pos (by omega), if_pos (by omega), if_pos (by omega), if_pos (by omega)]
      have ha : rd_T24 a (i : Int) = a[i] := by simp [rd_T24, hl]
      have hb : rd_T24 b (i : Int) = b[i] := by simp [rd_T24, hlb]
      rw [ha, hb, List.drop_eq_getElem_cons hl, List.drop_eq_getElem_cons hlb, eqTL]
      by_cases he : eqT a[i] b[i] = true
      · have he' := (eqT_iff _ _).1 he
        rw [if_neg (by rw [he']; simp), he, Bool.true_and, show wrap64 ((i : Int) + 1) = ((i + 1 : Nat) : Int) by unfold wrap64; omega]
        exact ih (i + 1) (by omega) (by omega)
      · have h2 : eqT a[i] b[i] = false := by simpa using he
        rw [if_pos ?_, h2, Bool.false_and]
        · unfold eqT at h2
          simp only [Bool.and_eq_false_iff, decide_eq_false_iff_not, beq_eq_false_iff_ne] at h2
          simp only [Bool.or_eq_true, Bool.not_eq_true', beq_eq_false_iff_ne]
          rcases h2 with h2 | h2 | h2 | h2 | h2 | h2
          · exact .inl (fun h3 => h2 ((nm_toList_eq_iff _ _).1 h3))
          · exact .inr (.inl h2)
          · exact .inr (.inr (.inl h2))
          · exact .inr (.inr (.inr (.inl h2)))
          · exact .inr (.inr (.inr (.inr (.inl h2))))
          · exact .inr (.inr (.inr (.inr (.inr h2))))
    · have hi2 : i = a.length := by omega
      rw [if_neg (by omega), List.drop_eq_nil_of_le (by omega), List.drop_eq_nil_of_le (by omega)]
      rfl
theorem eqTox_is (a b : List S24) (hm : a.length ≤ 9223372036854775807) : slices_Equal_api_Toxic_api_Toxic.f (a.length + 1) a b = some (eqTL a b) := by
  unfold slices_Equal_api_Toxic_api_Toxic.f
  by_cases h : a.length = b.length
  · rw [if_pos (by omega)]
    have := eqTox_l0 a b h hm (a.length + 1) 0 (by omega) (by omega)
    simpa using this
  · rw [if_neg (by omega), eqTL_len h]
set_option maxRecDepth 100000 in
theorem same1_calls (x y : S39) (A B : Option Addr) (c d : Nat) (w : World) (hx : Kd.C k24 w A x.f3.length x.f3) (hxc : x.f3.length ≤ c) (hy : Kd.C k24 w B y.f3.length y.f3) (hyc : y.f3.length ≤ d) :
    Calls Tryz.prog 48 #[.agg #[.string x.f0, .bool x.f1, .int .i64 x.f2, .slice A x.f3.length c], .agg #[.string y.f0, .bool y.f1, .int .i64 y.f2, .slice B y.f3.length d]] w fun e w' => e = .returned (.bool (eqP x y)) ∧ Below w.heap.size w w' := by
  have hq0 : (x.f0.toList == y.f0.toList) = decide (x.f0 = y.f0) := by
    rw [Bool.eq_iff_iff, beq_iff_eq, decide_eq_true_eq]
    exact nm_toList_eq_iff _ _
  have HE := Lib.hid (fun W (hb : Below w.heap.size w W) => slices_Equal_api_Toxic_api_Toxic.calls _ A c x.f3 B d y.f3 (eqTL x.f3 y.f3) W (Kd.C_below hx hb) hxc (Kd.C_below hy hb) hyc (eqTox_is _ _ hx.2.1))
  have HB := Lib.hid (((Below.refl w.heap.size w).alloc (Nat.le_refl _) (.cells #[.string x.f0, .bool x.f1, .int .i64 x.f2, .slice A x.f3.length c] 39)).alloc (by simp) (.cells #[.string y.f0, .bool y.f1, .int .i64 y.f2, .slice B y.f3.length d] 39))
  unfold eqP
  generalize eqTL x.f3 y.f3 = t at *
  generalize decide (x.f0 = y.f0) = b0 at *
  obtain ⟨b1, hq1⟩ : ∃ b, (x.f1 == y.f1) = b := ⟨_, rfl⟩
  obtain ⟨b2, hq2⟩ : ∃ b, (x.f2 == y.f2) = b := ⟨_, rfl⟩
  rw [hq1, hq2]
  generalize x.f3.length = nx at *
  generalize y.f3.length = ny at *
  clear hx hxc hy hyc
  cases b0
  · go_enter Tryz.func48, Tryz.ntmps48
    go_wp2_with fail
    go_ret
    exact ⟨rfl, HB.out⟩
  · cases b1
    · go_enter Tryz.func48, Tryz.ntmps48
      go_wp2_with fail
      go_ret
      exact ⟨rfl, HB.out⟩
    · cases b2
      · go_enter Tryz.func48, Tryz.ntmps48
        go_wp2_with fail
        go_ret
        exact ⟨rfl, HB.out⟩
      · go_enter Tryz.func48, Tryz.ntmps48
        go_wp2_with (go_at_call 49; refine (HE.out _ HB.out).mono ?_; rintro e w2 ⟨rfl, hd⟩; have HD := Lib.hid hd; clear hd)
        go_ret
        exact ⟨rfl, HB.out.trans (HD.out.below.mono HB.out.size)⟩
set_option maxRecDepth 100000 in
set_option maxHeartbeats 1000000 in
theorem eqf_calls (A0 : Option Addr) (c0 : Nat) (l0 : List S39) (A1 : Option Addr) (c1 : Nat) (l1 : List S39) (w : World) (hr0 : Kd.C k39 w A0 l0.length l0) (hr1 : Kd.C k39 w A1 l1.length l1) :
    Calls Tryz.prog 47 #[.slice A0 l0.length c0, .slice A1 l1.length c1, .func (.func 48) #[] #[]] w fun e w' => e = .returned (.bool (eqPL l0 l1)) ∧ Below w.heap.size w w' := by
  have hm : l0.length ≤ 9223372036854775807 := hr0.2.1
  have hm1 : l1.length ≤ 9223372036854775807 := hr1.2.1
  by_cases hlen : l0.length = l1.length
  · have HR0 := Lib.hid hr0
    have HR1 := Lib.hid hr1
    have HLL := Lib.hid hlen
    rw [← hlen] at HR1 ⊢
    obtain ⟨n, hn⟩ : ∃ n, l0.length = n := ⟨_, rfl⟩
    have HN := Lib.hid hn
    rw [hn] at hm HR0 HR1 ⊢
    clear hr0 hr1 hlen hn hm1
    have q1 : ((n : Int) != (n : Int)) = false := by simp
    go_enter Tryz.func47, Tryz.ntmps47
    go_wp2_with fail
    go_loopg [7, 8, 9, 17] n (fun gg _ _ _ s17 wr => ∃ kk : Nat, kk ≤ n ∧ n - kk ≤ gg ∧ s17 = .int .i64 kk ∧ Hid (Below w.heap.size w wr) ∧ Hid (eqPL l0 l1 = eqPL (l0.drop kk) (l1.drop kk)))
    case atStart => exact ⟨0, Nat.zero_le _, by omega, rfl, Lib.hid (Below.refl _ w), Lib.hid rfl⟩
    case round =>
      obtain ⟨kk, hkk, hg, rfl, BW, HP⟩ := hrel
      by_cases hlt : kk < n
      · have hl0 : kk < l0.length := by rw [HN.out]; exact hlt
        have hl1 : kk < l1.length := by rw [← HLL.out, HN.out]; exact hlt
        have hRa := Kd.C_below HR0.out BW.out
        have hRb := Kd.C_below HR1.out BW.out
        have hrd0 : rd_T39 l0 (kk : Int) = l0[kk] := by simp [rd_T39, hl0]
        have hrd1 : rd_T39 l1 (kk : Int) = l1[kk] := by simp [rd_T39, hl1]
        obtain ⟨ad, A3, c3, rfl, x0, x1, x2, x3, g1, g2⟩ := at_T39 hRa (kk : Int) (by omega) (by omega)
        obtain ⟨bd, B3, d3, rfl, y0, y1, y2, y3, g3, g4⟩ := at_T39 hRb (kk : Int) (by omega) (by omega)
        rw [hrd0] at x0 x1 x2 x3 g1 g2
        rw [hrd1] at y0 y1 y2 y3 g3 g4
        simp only [Int.toNat_natCast] at x0 x1 x2 x3 y0 y1 y2 y3
        have hx := HP.out
        rw [List.drop_eq_getElem_cons hl0, List.drop_eq_getElem_cons hl1, eqPL] at hx
        have HX := Lib.hid hx
        have HC := Lib.hid (fun W (hb : Below wr.heap.size wr W) => same1_calls l0[kk] l1[kk] A3 B3 c3 d3 W (Kd.C_below g2 hb) g1 (Kd.C_below g4 hb) g3)
        have HB2 := Lib.hid (((Below.refl wr.heap.size wr).alloc (Nat.le_refl _) (.cells #[.string l0[kk].f0, .bool l0[kk].f1, .int .i64 l0[kk].f2, .slice A3 l0[kk].f3.length c3] 39)).alloc (by simp) (.cells #[.string l1[kk].f0, .bool l1[kk].f1, .int .i64 l1[kk].f2, .slice B3 l1[kk].f3.length d3] 39))
        have y0' := nm_cell_at ((Below.refl wr.heap.size wr).alloc (Nat.le_refl _) (.cells #[.string l0[kk].f0, .bool l0[kk].f1, .int .i64 l0[kk].f2, .slice A3 l0[kk].f3.length c3] 39)) y0
        have y1' := nm_cell_at ((Below.refl wr.heap.size wr).alloc (Nat.le_refl _) (.cells #[.string l0[kk].f0, .bool l0[kk].f1, .int .i64 l0[kk].f2, .slice A3 l0[kk].f3.length c3] 39)) y1
        have y2' := nm_cell_at ((Below.refl wr.heap.size wr).alloc (Nat.le_refl _) (.cells #[.string l0[kk].f0, .bool l0[kk].f1, .int .i64 l0[kk].f2, .slice A3 l0[kk].f3.length c3] 39)) y2
        have y3' := nm_cell_at ((Below.refl wr.heap.size wr).alloc (Nat.le_refl _) (.cells #[.string l0[kk].f0, .bool l0[kk].f1, .int .i64 l0[kk].f2, .slice A3 l0[kk].f3.length c3] 39)) y3
        clear hRa hRb hrd0 hrd1 hx g1 g2 g3 g4 y0 y1 y2 y3
        have hi0 : (0 : Int) ≤ (kk : Int) := Int.natCast_nonneg _
        have hi1 : (kk : Int) < (n : Int) := by omega
        generalize l0[kk] = x at *
        generalize l1[kk] = y at *
        generalize hb : eqP x y = b at *
        have HQ := Lib.hid hb
        clear hb
        cases b
        · go_wp2_with (go_at_call 48; refine (HC.out _ HB2.out).mono ?_; rintro e w1 ⟨rfl, hb'⟩)
          go_ret
          exact ⟨by rw [HX.out]; rfl, BW.out.trans ((HB2.out.trans (hb'.mono HB2.out.size)).mono BW.out.size)⟩
        · go_wp2_with (go_at_call 48; refine (HC.out _ HB2.out).mono ?_; rintro e w1 ⟨rfl, hb'⟩)
          go_roundg (n - (kk + 1))
          case measure => omega
          case rel => exact ⟨kk + 1, by omega, by omega, by go_num, Lib.hid (BW.out.trans ((HB2.out.trans (hb'.mono HB2.out.size)).mono BW.out.size)), Lib.hid (by rw [HX.out, Bool.true_and])⟩
      · have hk : kk = n := by omega
        subst hk
        have hx := HP.out
        rw [List.drop_eq_nil_of_le (by rw [HN.out]; exact Nat.le_refl _), List.drop_eq_nil_of_le (by rw [← HLL.out, HN.out]; exact Nat.le_refl _)] at hx
        have HY := Lib.hid hx
        clear hx
        go_wp2_with fail
        go_ret
        exact ⟨by rw [HY.out]; rfl, BW.out⟩
  · have hres := eqPL_len hlen
    rw [hres]
    have q1 : ((l0.length : Int) != (l1.length : Int)) = true := by simp; omega
    have q2 : (l0.length != l1.length) = true := by simpa using hlen
    generalize l0.length = n at *
    generalize l1.length = m at *
    clear hr0 hr1 hres hlen
    go_enter Tryz.func47, Tryz.ntmps47
    go_wp2_with fail
    go_ret
    exact ⟨rfl, Below.refl _ _⟩
theorem names_Same.calls (A0 : Option Addr) (c0 : Nat) (l0 : List S39) (A1 : Option Addr) (c1 : Nat) (l1 : List S39) (r : Bool) (w : World) (hr0 : Kd.C k39 w A0 l0.length l0) (hc0 : l0.length ≤ c0) (hr1 : Kd.C k39 w A1 l1.length l1) (hc1 : l1.length ≤ c1) (h : names_Same.f l0 l1 = some r) :
    Calls Tryz.prog 20 #[.slice A0 l0.length c0, .slice A1 l1.length c1] w fun e w' => e = .returned (.bool r) ∧ Below w.heap.size w w' := by
  have HC := Lib.hid (eqf_calls A0 c0 l0 A1 c1 l1 w hr0 hr1)
  rw [Option.some.inj h] at HC
  generalize l0.length = n at *
  generalize l1.length = m at *
  clear h hr0 hr1 hc0 hc1
  go_enter Tryz.func20, Tryz.ntmps20
  go_wp2_with (go_at_call 47; refine HC.out.mono ?_; rintro e w1 ⟨rfl, hb'⟩)
  go_ret
  exact ⟨rfl, hb'⟩
end Go.Proofs.YtlglbpjccpdloaaGreat.Ext
namespace Go.Proofs.YtlglbpjccpdloaaGreat.PNamA
open Go.Proofs.YtlglbpjccpdloaaGreat.Ext Go.Proofs.YtlglbpjccpdloaaGreat.ToxZ Go.RowKit Go.Proofs.YtlglbpjccpdloaaGreatW.PrintWords Go.Proofs.YtlglbpjccpdloaaGreatW.PrintLast Go.Proofs.YtlglbpjccpdloaaGreatW.PrintMore Go.Proofs.YtlglbpjccpdloaaGreat.Sq
attribute [local go_sem] max2_int min2_int max_two min_two max_three min_three max_four min_four   -- for this text's walks alone
set_option linter.unusedVariables false
set_option linter.unusedSimpArgs false
def chicanelaw14_kind.f (a0_0 : Int) (a0_1 : Int) (a0_2 : ByteArray) (a0_3 : ByteArray) (a0_4 : Bool) (a0_5 : ByteArray) (a0_6 : Int) (a0_7 : Bool) (a0_8 : Int) (a0_9 : Int) (a0_10 : Int) : Option (Bool) := if a0_0 ≥ 0 then (if a0_0 ≤ 6 then (if (a0_2.size : Int) ≤ 100 then (if (a0_5.size : Int) ≤ 100 then (some (decide ((a0_3.size : Int) ≤ 100))) else (some false)) else (some false)) else (some false)) else (some false)
set_option maxHeartbeats 8000000 in
set_option maxRecDepth 100000 in
theorem chicanelaw14_kind.calls (a0_0 : Int) (a0_1 : Int) (a0_2 : ByteArray) (a0_3 : ByteArray) (a0_4 : Bool) (a0_5 : ByteArray) (a0_6 : Int) (a0_7 : Bool) (a0_8 : Int) (a0_9 : Int) (a0_10 : Int) (r : Bool) (w : World) (h : chicanelaw14_kind.f a0_0 a0_1 a0_2 a0_3 a0_4 a0_5 a0_6 a0_7 a0_8 a0_9 a0_10 = some r) :
  Calls Tryz.prog 7 #[.agg #[.int .i64 a0_0, .int .i64 a0_1, .string a0_2, .string a0_3, .bool a0_4, .string a0_5, .int .i64 a0_6, .bool a0_7, .int .i64 a0_8, .int .i64 a0_9, .int .i64 a0_10]] w fun e w' => e = .returned (.bool r) ∧ Below w.heap.size w w' := by
 have hu26 := Tryz.underlying26
 have HB := Aside0.mk (Below.refl w.heap.size w)
 have H : (if a0_0 ≥ 0 then (if a0_0 ≤ 6 then (if (a0_2.size : Int) ≤ 100 then (if (a0_5.size : Int) ≤ 100 then (some (decide ((a0_3.size : Int) ≤ 100))) else (some false)) else (some false)) else (some false)) else (some false)) = some r := h
 clear h
 by_cases c2 : a0_0 ≥ 0
 ·rw [if_pos c2] at H
  have c2b0 : decide (0 ≤ a0_0) = true := decide_eq_true c2
  clear c2
  by_cases c3 : a0_0 ≤ 6
  ·rw [if_pos c3] at H
   have c3b0 : decide (a0_0 ≤ 6) = true := decide_eq_true c3
   clear c3
   by_cases c4 : (a0_2.size : Int) ≤ 100
   ·rw [if_pos c4] at H
    have c4b0 : decide ((a0_2.size : Int) ≤ 100) = true := decide_eq_true c4
    have c4b1 : decide (a0_2.size ≤ 100) = true := decide_eq_true (by omega)
    clear c4
    by_cases c5 : (a0_5.size : Int) ≤ 100
    ·rw [if_pos c5] at H
     have c5b0 : decide ((a0_5.size : Int) ≤ 100) = true := decide_eq_true c5
     have c5b1 : decide (a0_5.size ≤ 100) = true := decide_eq_true (by omega)
     clear c5
     obtain rfl := Option.some.inj H
     go_enter Tryz.func7, Tryz.ntmps7
     go_wp2_with (first | ((with_reducible refine gate_dst (N := 1) rfl ?_); (try (refine gate_guard (by rfl) ?_; dsimp only)); refine box_event ?hg (N := 1) ?hd (cs := #[.int .i64 a0_0, .int .i64 a0_1, .string a0_2, .string a0_3, .bool a0_4, .string a0_5, .int .i64 a0_6, .bool a0_7, .int .i64 a0_8, .int .i64 a0_9, .int .i64 a0_10]) (t := 26) ?hr ?_; (case hd => rfl); (case hg => rfl); (case hr => first | (go_simp; done) | (go_simp; rfl)); intro gb120 hg w6 hbox hb; have n0_ := Aside0.mk (below_step (qB HB.out) hb); have n1_ := Aside0.mk (hbox); have n2_ := Aside0.mk ((qs hg (below_size (qB HB.out)) : w.heap.size ≤ gb120)); have n3_ := Aside0.mk ((qs hg (below_size (qB HB.out)) : w.heap.size ≤ gb120)); clear HB; have HB := n0_; have BK120 := n1_; have GW120 := n2_; have GE120 := n3_; clear n0_ n1_ n2_ n3_ hb hbox hg; have hcz7 := qC11 BK120.out))
     go_ret
     exact ⟨qE, by repeat (first | (with_reducible first | exact HB.out | apply below_alloc | apply pw_below_drewN | apply below_drew1 | refine below_set ?_ GE120.out) | exact HB.out)⟩
    ·rw [if_neg c5] at H
     have c5b0 : decide ((a0_5.size : Int) ≤ 100) = false := decide_eq_false c5
     have c5b1 : decide (a0_5.size ≤ 100) = false := decide_eq_false (by omega)
     clear c5
     obtain rfl := Option.some.inj H
     go_enter Tryz.func7, Tryz.ntmps7
     go_wp2_with (first | ((with_reducible refine gate_dst (N := 1) rfl ?_); (try (refine gate_guard (by rfl) ?_; dsimp only)); refine box_event ?hg (N := 1) ?hd (cs := #[.int .i64 a0_0, .int .i64 a0_1, .string a0_2, .string a0_3, .bool a0_4, .string a0_5, .int .i64 a0_6, .bool a0_7, .int .i64 a0_8, .int .i64 a0_9, .int .i64 a0_10]) (t := 26) ?hr ?_; (case hd => rfl); (case hg => rfl); (case hr => first | (go_simp; done) | (go_simp; rfl)); intro gb120 hg w8 hbox hb; have n0_ := Aside0.mk (below_step (qB HB.out) hb); have n1_ := Aside0.mk (hbox); have n2_ := Aside0.mk ((qs hg (below_size (qB HB.out)) : w.heap.size ≤ gb120)); have n3_ := Aside0.mk ((qs hg (below_size (qB HB.out)) : w.heap.size ≤ gb120)); clear HB; have HB := n0_; have BK120 := n1_; have GW120 := n2_; have GE120 := n3_; clear n0_ n1_ n2_ n3_ hb hbox hg; have hcz9 := qC11 BK120.out))
     go_ret
     exact ⟨qE, by repeat (first | (with_reducible first | exact HB.out | apply below_alloc | apply pw_below_drewN | apply below_drew1 | refine below_set ?_ GE120.out) | exact HB.out)⟩
   ·rw [if_neg c4] at H
    have c4b0 : decide ((a0_2.size : Int) ≤ 100) = false := decide_eq_false c4
    have c4b1 : decide (a0_2.size ≤ 100) = false := decide_eq_false (by omega)
    clear c4
    obtain rfl := Option.some.inj H
    go_enter Tryz.func7, Tryz.ntmps7
    go_wp2_with (first | ((with_reducible refine gate_dst (N := 1) rfl ?_); (try (refine gate_guard (by rfl) ?_; dsimp only)); refine box_event ?hg (N := 1) ?hd (cs := #[.int .i64 a0_0, .int .i64 a0_1, .string a0_2, .string a0_3, .bool a0_4, .string a0_5, .int .i64 a0_6, .bool a0_7, .int .i64 a0_8, .int .i64 a0_9, .int .i64 a0_10]) (t := 26) ?hr ?_; (case hd => rfl); (case hg => rfl); (case hr => first | (go_simp; done) | (go_simp; rfl)); intro gb120 hg w10 hbox hb; have n0_ := Aside0.mk (below_step (qB HB.out) hb); have n1_ := Aside0.mk (hbox); have n2_ := Aside0.mk ((qs hg (below_size (qB HB.out)) : w.heap.size ≤ gb120)); have n3_ := Aside0.mk ((qs hg (below_size (qB HB.out)) : w.heap.size ≤ gb120)); clear HB; have HB := n0_; have BK120 := n1_; have GW120 := n2_; have GE120 := n3_; clear n0_ n1_ n2_ n3_ hb hbox hg; have hcz11 := qC11 BK120.out))
    go_ret
    exact ⟨qE, by repeat (first | (with_reducible first | exact HB.out | apply below_alloc | apply pw_below_drewN | apply below_drew1 | refine below_set ?_ GE120.out) | exact HB.out)⟩
  ·rw [if_neg c3] at H
   have c3b0 : decide (a0_0 ≤ 6) = false := decide_eq_false c3
   clear c3
   obtain rfl := Option.some.inj H
   go_enter Tryz.func7, Tryz.ntmps7
   go_wp2_with (first | ((with_reducible refine gate_dst (N := 1) rfl ?_); (try (refine gate_guard (by rfl) ?_; dsimp only)); refine box_event ?hg (N := 1) ?hd (cs := #[.int .i64 a0_0, .int .i64 a0_1, .string a0_2, .string a0_3, .bool a0_4, .string a0_5, .int .i64 a0_6, .bool a0_7, .int .i64 a0_8, .int .i64 a0_9, .int .i64 a0_10]) (t := 26) ?hr ?_; (case hd => rfl); (case hg => rfl); (case hr => first | (go_simp; done) | (go_simp; rfl)); intro gb120 hg w12 hbox hb; have n0_ := Aside0.mk (below_step (qB HB.out) hb); have n1_ := Aside0.mk (hbox); have n2_ := Aside0.mk ((qs hg (below_size (qB HB.out)) : w.heap.size ≤ gb120)); have n3_ := Aside0.mk ((qs hg (below_size (qB HB.out)) : w.heap.size ≤ gb120)); clear HB; have HB := n0_; have BK120 := n1_; have GW120 := n2_; have GE120 := n3_; clear n0_ n1_ n2_ n3_ hb hbox hg; have hcz13 := qC11 BK120.out))
   go_ret
   exact ⟨qE, by repeat (first | (with_reducible first | exact HB.out | apply below_alloc | apply pw_below_drewN | apply below_drew1 | refine below_set ?_ GE120.out) | exact HB.out)⟩
 ·rw [if_neg c2] at H
  have c2b0 : decide (0 ≤ a0_0) = false := decide_eq_false c2
  clear c2
  obtain rfl := Option.some.inj H
  go_enter Tryz.func7, Tryz.ntmps7
  go_wp2_with (first | ((with_reducible refine gate_dst (N := 1) rfl ?_); (try (refine gate_guard (by rfl) ?_; dsimp only)); refine box_event ?hg (N := 1) ?hd (cs := #[.int .i64 a0_0, .int .i64 a0_1, .string a0_2, .string a0_3, .bool a0_4, .string a0_5, .int .i64 a0_6, .bool a0_7, .int .i64 a0_8, .int .i64 a0_9, .int .i64 a0_10]) (t := 26) ?hr ?_; (case hd => rfl); (case hg => rfl); (case hr => first | (go_simp; done) | (go_simp; rfl)); intro gb120 hg w14 hbox hb; have n0_ := Aside0.mk (below_step (qB HB.out) hb); have n1_ := Aside0.mk (hbox); have n2_ := Aside0.mk ((qs hg (below_size (qB HB.out)) : w.heap.size ≤ gb120)); have n3_ := Aside0.mk ((qs hg (below_size (qB HB.out)) : w.heap.size ≤ gb120)); clear HB; have HB := n0_; have BK120 := n1_; have GW120 := n2_; have GE120 := n3_; clear n0_ n1_ n2_ n3_ hb hbox hg; have hcz15 := qC11 BK120.out))
  go_ret
  exact ⟨qE, by repeat (first | (with_reducible first | exact HB.out | apply below_alloc | apply pw_below_drewN | apply below_drew1 | refine below_set ?_ GE120.out) | exact HB.out)⟩
def names_Find.f (l0 : List (S39)) (a1 : ByteArray) : Option (ByteArray × Bool × Int × (List (S24)) × Bool) := (names_at_api_Proxy.f l0 a1).bind fun t122 => (if t122 < 0 then (some ((⟨#[]⟩ : ByteArray), false, 0, ([] : List (S24)), false)) else ((names_own.f l0).bind fun t123 => (if 0 ≤ t122 then (if t122 < (t123.length : Int) then (some ((rd_T39 t123 t122).f0, (rd_T39 t123 t122).f1, (rd_T39 t123 t122).f2, (rd_T39 t123 t122).f3, true)) else (none)) else (none))))
set_option maxHeartbeats 8000000 in
set_option maxRecDepth 100000 in
theorem names_Find.calls (A0 : Option Addr) (c0 : Nat) (l0 : List (S39)) (a1 : ByteArray) (r1 : ByteArray) (r2 : Bool) (r3 : Int) (r4 : List (S24)) (r5 : Bool) (w : World) (hr0 : Kd.C k39 w A0 l0.length l0) (hc0 : l0.length ≤ c0) (h : names_Find.f l0 a1 = some (r1, r2, r3, r4, r5)) :
  Calls Tryz.prog 17 #[.slice A0 l0.length c0, .string a1] w fun e w' => ∃ v3_ : Value, e = .returned (.tuple #[.agg #[.string r1, .bool r2, .int .i64 r3, v3_], .bool r5]) ∧ Kd.R k24 24 w' w.heap.size (fun _ => True) v3_ r4 ∧ Below w.heap.size w w' := by
 have hu39 := Tryz.underlying39
 have HR0 := Aside0.mk hr0
 have HC0 := Aside0.mk hc0
 clear hr0 hc0
 have HB := Aside0.mk (Below.refl w.heap.size w)
 have H : ((names_at_api_Proxy.f l0 a1).bind fun t122 => (if t122 < 0 then (some ((⟨#[]⟩ : ByteArray), false, 0, ([] : List (S24)), false)) else ((names_own.f l0).bind fun t123 => (if 0 ≤ t122 then (if t122 < (t123.length : Int) then (some ((rd_T39 t123 t122).f0, (rd_T39 t123 t122).f1, (rd_T39 t123 t122).f2, (rd_T39 t123 t122).f3, true)) else (none)) else (none))))) = some (r1, r2, r3, r4, r5) := h
 clear h
 replace H := Option.bind_eq_some_iff.mp H
 obtain ⟨t122, A30, H⟩ := H
 replace H : (if t122 < 0 then (some ((⟨#[]⟩ : ByteArray), false, 0, ([] : List (S24)), false)) else ((names_own.f l0).bind fun t123 => (if 0 ≤ t122 then (if t122 < (t123.length : Int) then (some ((rd_T39 t123 t122).f0, (rd_T39 t123 t122).f1, (rd_T39 t123 t122).f2, (rd_T39 t123 t122).f3, true)) else (none)) else (none)))) = some (r1, r2, r3, r4, r5) := H
 have A3 := Aside0.mk A30
 clear A30
 by_cases c4 : t122 < 0
 ·rw [if_pos c4] at H
  have c4b0 : decide (t122 < 0) = true := decide_eq_true c4
  clear c4
  simp only [Option.some.injEq, Prod.mk.injEq] at H
  obtain ⟨rfl, rfl, rfl, rfl, rfl⟩ := H
  go_enter Tryz.func17, Tryz.ntmps17
  go_wp2_with (first | ((with_reducible refine gate_dst (N := 4) rfl ?_); refine box_event ?hg (N := 4) ?hd (cs := #[.string (⟨#[]⟩ : ByteArray), .bool false, .int .i64 0, .slice none 0 0]) (t := 39) ?hr ?_; (case hd => rfl); (case hg => rfl); (case hr => first | (go_simp; done) | (go_simp; rfl)); intro gb121 hg w5 hbox hb; have n0_ := Aside0.mk (below_step (qB HB.out) hb); have n1_ := Aside0.mk (hbox); have n2_ := Aside0.mk ((qs hg (below_size (qB HB.out)) : w.heap.size ≤ gb121)); have n3_ := Aside0.mk ((qs hg (below_size (qB HB.out)) : w.heap.size ≤ gb121)); clear HB; have HB := n0_; have BK121 := n1_; have GW121 := n2_; have GE121 := n3_; clear n0_ n1_ n2_ n3_ hb hbox hg) | ((with_reducible refine gate_callee (f := 31) rfl ?_); refine goesL_ (some 9) rfl rfl Tryz.func31 qr rfl #[.slice A0 l0.length c0, .string a1, .func (.func 32) #[] #[]] rfl qG ?_; (with_reducible refine (names_at_api_Proxy.calls _ _ l0 a1  t122 _ ?side1 ?side2 A3.out).mono ?_); (case side1 => repeat (first | exact (Kd.C_below HR0.out HB.out) | (with_reducible refine Kd.C_alloc ?_ _) | (with_reducible refine Kd.C_drewN ?_ _) | (with_reducible refine Kd.C_drew ?_))); (case side2 => exact HC0.out); rintro e w6 ⟨rfl, hb⟩; refine ⟨_, rfl, ?_⟩; replace BK121 := Aside0.mk (blk_below (qK BK121.out) hb); replace HB := Aside0.mk (below_step (qB1 HB.out GE121.out) hb); (try clear hb); (try clear hb2); (try clear hk); (try clear hi); have hcz7 := qC4 BK121.out))
  refine bodyPost_ret (results_ct rfl _ _ gb121 39 #[.string (⟨#[]⟩ : ByteArray), .bool false, .int .i64 0, .slice none 0 0] (0, 0) _ rfl (by (with_reducible repeat (first | refine blk_drewN ?_ _ | refine blk_drew ?_ | refine blk_alloc ?_ _)); refine blk_put (cs := #[.string (⟨#[]⟩ : ByteArray), .bool false, .int .i64 0, .slice none 0 0]) ?_ 3 _ rfl; (with_reducible repeat (first | refine blk_drewN ?_ _ | refine blk_drew ?_ | refine blk_alloc ?_ _)); refine blk_put (cs := #[.string (⟨#[]⟩ : ByteArray), .bool false, .int .i64 0, .slice none 0 0]) ?_ 2 _ rfl; (with_reducible repeat (first | refine blk_drewN ?_ _ | refine blk_drew ?_ | refine blk_alloc ?_ _)); refine blk_put (cs := #[.string (⟨#[]⟩ : ByteArray), .bool false, .int .i64 0, .slice none 0 0]) ?_ 1 _ rfl; (with_reducible repeat (first | refine blk_drewN ?_ _ | refine blk_drew ?_ | refine blk_alloc ?_ _)); refine blk_put (cs := #[.string (⟨#[]⟩ : ByteArray), .bool false, .int .i64 0, .slice none 0 0]) ?_ 0 _ rfl; (with_reducible repeat (first | refine blk_drewN ?_ _ | refine blk_drew ?_ | refine blk_alloc ?_ _)); exact BK121.out) Tryz.underlying39 rfl qr) rfl ?_
  exact ⟨_, qE, by first | exact Kd.R_nil _ _ _ _ _ | exact Kd.N_nil _ _ _ _ _ | exact Kd.V_nil _ _ _ _ _ | exact Kd.Q_nil _ _ _ _ _ | exact Kd.S_nil _ _ _ _ _, by repeat (first | (with_reducible first | exact HB.out | apply below_alloc | apply pw_below_drewN | apply below_drew1 | refine below_set ?_ GE121.out) | exact HB.out)⟩
 ·rw [if_neg c4] at H
  have c4b0 : decide (t122 < 0) = false := decide_eq_false c4
  clear c4
  replace H := Option.bind_eq_some_iff.mp H
  obtain ⟨t123, A80, H⟩ := H
  replace H : (if 0 ≤ t122 then (if t122 < (t123.length : Int) then (some ((rd_T39 t123 t122).f0, (rd_T39 t123 t122).f1, (rd_T39 t123 t122).f2, (rd_T39 t123 t122).f3, true)) else (none)) else (none)) = some (r1, r2, r3, r4, r5) := H
  have A8 := Aside0.mk A80
  clear A80
  by_cases c9 : 0 ≤ t122
  ·rw [if_pos c9] at H
   have c9b0 : decide (0 ≤ t122) = true := decide_eq_true c9
   clear c9
   by_cases c10 : t122 < (t123.length : Int)
   ·rw [if_pos c10] at H
    have c10b0 : decide (t122 < (t123.length : Int)) = true := decide_eq_true c10
    clear c10
    simp only [Option.some.injEq, Prod.mk.injEq] at H
    obtain ⟨rfl, rfl, rfl, rfl, rfl⟩ := H
    go_enter Tryz.func17, Tryz.ntmps17
    go_wp2_with (first | ((with_reducible refine gate_dst (N := 4) rfl ?_); refine box_event ?hg (N := 4) ?hd (cs := #[.string (⟨#[]⟩ : ByteArray), .bool false, .int .i64 0, .slice none 0 0]) (t := 39) ?hr ?_; (case hd => rfl); (case hg => rfl); (case hr => first | (go_simp; done) | (go_simp; rfl)); intro gb121 hg w11 hbox hb; have n0_ := Aside0.mk (below_step (qB HB.out) hb); have n1_ := Aside0.mk (hbox); have n2_ := Aside0.mk ((qs hg (below_size (qB HB.out)) : w.heap.size ≤ gb121)); have n3_ := Aside0.mk ((qs hg (below_size (qB HB.out)) : w.heap.size ≤ gb121)); clear HB; have HB := n0_; have BK121 := n1_; have GW121 := n2_; have GE121 := n3_; clear n0_ n1_ n2_ n3_ hb hbox hg) | ((with_reducible refine gate_callee (f := 31) rfl ?_); refine goesL_ (some 9) rfl rfl Tryz.func31 qr rfl #[.slice A0 l0.length c0, .string a1, .func (.func 32) #[] #[]] rfl qG ?_; (with_reducible refine (names_at_api_Proxy.calls _ _ l0 a1  t122 _ ?side1 ?side2 A3.out).mono ?_); (case side1 => repeat (first | exact (Kd.C_below HR0.out HB.out) | (with_reducible refine Kd.C_alloc ?_ _) | (with_reducible refine Kd.C_drewN ?_ _) | (with_reducible refine Kd.C_drew ?_))); (case side2 => exact HC0.out); rintro e w12 ⟨rfl, hb⟩; refine ⟨_, rfl, ?_⟩; replace BK121 := Aside0.mk (blk_below (qK BK121.out) hb); replace HB := Aside0.mk (below_step (qB1 HB.out GE121.out) hb); (try clear hb); (try clear hb2); (try clear hk); (try clear hi)) | ((with_reducible refine gate_callee (f := 30) rfl ?_); refine goesL_ (some 14) rfl rfl Tryz.func30 qr rfl #[.slice A0 l0.length c0] rfl qG ?_; (with_reducible refine (names_own.calls _ _ l0 t123 _ ?side1 ?side2 A8.out).mono ?_); (case side1 => repeat (first | exact (Kd.C_below HR0.out HB.out) | (with_reducible refine Kd.C_alloc ?_ _) | (with_reducible refine Kd.C_drewN ?_ _) | (with_reducible refine Kd.C_drew ?_))); (case side2 => exact HC0.out); rintro e w13 ⟨v124, rfl, ho0, hb⟩; refine ⟨_, rfl, ?_⟩; have HO125 := Aside0.mk (Kd.S_lower (Kd.S_newB ho0 (g := gb121) (o := .cells #[.string (⟨#[]⟩ : ByteArray), .bool false, .int .i64 0, .slice none 0 0] 39 (0, 0)) (qK BK121.out)) (below_size (qB1 HB.out GE121.out))); replace BK121 := Aside0.mk (blk_below (qK BK121.out) hb); replace HB := Aside0.mk (below_step (qB1 HB.out GE121.out) hb); (try clear hb); (try clear hb2); (try clear hk); (try clear hi); (try clear ho0); obtain ⟨Ao14, co14, eo14⟩ := Kd.S_slice HO125.out; subst eo14; have p126 : 0 ≤ (t122 : Int) := of_decide_eq_true qA; have q126 : t122 < (t123.length : Int) := of_decide_eq_true qA; obtain ⟨ad126, A126_3, c126_3, e126, hx126_0, hx126_1, hx126_2, hx126_3, hl126_3, hi126_3⟩ := at_T39 (Kd.S_reads' HO125.out).2.2 t122 p126 q126; cases e126; obtain ⟨ce126, hce126, hMe126, hcc126⟩ := Kd.S_get HO125.out z39 t122 p126 (by first | exact q126 | exact of_decide_eq_true qA | (have e_ := (Kd.S_reads' HO125.out).1; omega)); obtain ⟨ve126_3, rfl, ge126_3⟩ := k39_openM hMe126; have hv126_3 := hcc126 3 _ rfl; rw [add_field _ _ 3 (by omega)] at hv126_3; replace hv126_3 := Option.some.inj (hv126_3.symm.trans hx126_3); rw [hv126_3] at ge126_3; have HL126_3 := Aside0.mk (show Kd.R k24 24 _ _ _ _ ((rd_T39 t123 t122).f3) from ge126_3); clear hv126_3 ge126_3 hcc126 hce126; have HR126_3 := Aside0.mk hi126_3; have HC126_3 := Aside0.mk hl126_3; clear hi126_3 hl126_3; replace p126 := eq_true p126; replace q126 := eq_true q126; have hcz15 := qC4 BK121.out))
    refine bodyPost_ret (results_ct rfl _ _ gb121 39 #[.string ((rd_T39 t123 t122).f0), .bool ((rd_T39 t123 t122).f1), .int .i64 ((rd_T39 t123 t122).f2), .slice A126_3 ((rd_T39 t123 t122).f3).length c126_3] (0, 0) _ rfl (by (with_reducible repeat (first | refine blk_drewN ?_ _ | refine blk_drew ?_ | refine blk_alloc ?_ _)); refine blk_put (cs := #[.string ((rd_T39 t123 t122).f0), .bool ((rd_T39 t123 t122).f1), .int .i64 ((rd_T39 t123 t122).f2), .slice none 0 0]) ?_ 3 _ rfl; (with_reducible repeat (first | refine blk_drewN ?_ _ | refine blk_drew ?_ | refine blk_alloc ?_ _)); refine blk_put (cs := #[.string ((rd_T39 t123 t122).f0), .bool ((rd_T39 t123 t122).f1), .int .i64 0, .slice none 0 0]) ?_ 2 _ rfl; (with_reducible repeat (first | refine blk_drewN ?_ _ | refine blk_drew ?_ | refine blk_alloc ?_ _)); refine blk_put (cs := #[.string ((rd_T39 t123 t122).f0), .bool false, .int .i64 0, .slice none 0 0]) ?_ 1 _ rfl; (with_reducible repeat (first | refine blk_drewN ?_ _ | refine blk_drew ?_ | refine blk_alloc ?_ _)); refine blk_put (cs := #[.string (⟨#[]⟩ : ByteArray), .bool false, .int .i64 0, .slice none 0 0]) ?_ 0 _ rfl; (with_reducible repeat (first | refine blk_drewN ?_ _ | refine blk_drew ?_ | refine blk_alloc ?_ _)); exact BK121.out) Tryz.underlying39 rfl qr) rfl ?_
    exact ⟨_, qE, by (with_reducible repeat (first | apply Kd.R_alloc | apply Kd.R_drewN | apply Kd.R_drew)); exact Kd.R_mono (Kd.R_far (p := ⟨gb121, 3, none⟩) (Kd.R_far (p := ⟨gb121, 2, none⟩) (Kd.R_far (p := ⟨gb121, 1, none⟩) (Kd.R_far (p := ⟨gb121, 0, none⟩) (Kd.R_types HL126_3.out BK121.out (by decide)) (fun _ hk => hk.2) (.string ((rd_T39 t123 t122).f0))) (fun _ hk => hk.2) (.bool ((rd_T39 t123 t122).f1))) (fun _ hk => hk.2) (.int .i64 ((rd_T39 t123 t122).f2))) (fun _ hk => hk.2) (.slice A126_3 ((rd_T39 t123 t122).f3).length c126_3)) (fun _ hk => trivial), by repeat (first | (with_reducible first | exact HB.out | apply below_alloc | apply pw_below_drewN | apply below_drew1 | refine below_set ?_ GE121.out) | exact HB.out)⟩
   ·rw [if_neg c10] at H
    exact absurd H (by simp)
  ·rw [if_neg c9] at H
   exact absurd H (by simp)
mutual
def names_Lines.j0 : Nat → ByteArray → ByteArray → Bool → Int → List (S24) → Option (List ByteArray)
 | 0, _, _, _, _, _ => none
 | k + 1, x3, x128000, x128001, x128002, x128003 => if x128000.size + 1 ≤ 9223372036854775807 then (if (x128000 ++ (⟨#[32]⟩ : ByteArray)).size + x3.size ≤ 9223372036854775807 then (if ((x128000 ++ (⟨#[32]⟩ : ByteArray)) ++ x3).size + 1 ≤ 9223372036854775807 then ((tick_Text.f x128002).bind fun t129 => (if (((x128000 ++ (⟨#[32]⟩ : ByteArray)) ++ x3) ++ (⟨#[32]⟩ : ByteArray)).size + t129.size ≤ 9223372036854775807 then (if ((((x128000 ++ (⟨#[32]⟩ : ByteArray)) ++ x3) ++ (⟨#[32]⟩ : ByteArray)) ++ t129).size + 1 ≤ 9223372036854775807 then ((tick_Text.f (x128003.length : Int)).bind fun t130 => (if (((((x128000 ++ (⟨#[32]⟩ : ByteArray)) ++ x3) ++ (⟨#[32]⟩ : ByteArray)) ++ t129) ++ (⟨#[32]⟩ : ByteArray)).size + t130.size ≤ 9223372036854775807 then (names_Lines.l0 k (([(((((x128000 ++ (⟨#[32]⟩ : ByteArray)) ++ x3) ++ (⟨#[32]⟩ : ByteArray)) ++ t129) ++ (⟨#[32]⟩ : ByteArray)) ++ t130] : List ByteArray)) x128003 (x128003.length : Int) 0) else (none))) else (none)) else (none))) else (none)) else (none)) else (none)
def names_Lines.l0 : Nat → List ByteArray → List (S24) → Int → Int → Option (List ByteArray)
 | 0, _, _, _, _ => none
 | k + 1, x4, x30, x31, x32 => if x32 < x31 then (if 0 ≤ x32 then (if x32 < (x30.length : Int) then ((toxic_Text.f ((rd_T24 x30 x32).f0) ((rd_T24 x30 x32).f1) ((rd_T24 x30 x32).f2) ((rd_T24 x30 x32).f3) ((rd_T24 x30 x32).f4) ((rd_T24 x30 x32).f5)).bind fun t136 => (if x4.length < 8796093022208 then (names_Lines.l0 k (x4 ++ [t136]) x30 x31 (wrap64 (x32 + 1))) else (none))) else (none)) else (none)) else (some x4)
end
def names_Lines.f (k : Nat) (a0_0 : ByteArray) (a0_1 : Bool) (a0_2 : Int) (l0_3 : List (S24)) : Option (List ByteArray) := (names_Check.f k a0_0 a0_1 a0_2 l0_3).bind fun t128 => (if t128 = 0 then (if a0_1 = true then (names_Lines.j0 k (⟨#[111, 110]⟩ : ByteArray) a0_0 a0_1 a0_2 l0_3) else (names_Lines.j0 k (⟨#[111, 102, 102]⟩ : ByteArray) a0_0 a0_1 a0_2 l0_3)) else (some ([] : List ByteArray)))
theorem names_Lines.mono_l : ∀ k, (∀ y0 y1 y2 y3 y4, LeO (names_Lines.j0 k y0 y1 y2 y3 y4) (names_Lines.j0 (k + 1) y0 y1 y2 y3 y4)) ∧ (∀ y0 y1 y2 y3, LeO (names_Lines.l0 k y0 y1 y2 y3) (names_Lines.l0 (k + 1) y0 y1 y2 y3))
 | 0 => ⟨fun _ _ _ _ _ r h => by simp [names_Lines.j0] at h, fun _ _ _ _ r h => by simp [names_Lines.l0] at h⟩
 | k + 1 => by
  obtain ⟨ih0, ih1⟩ := names_Lines.mono_l k
  refine ⟨?_, ?_⟩
  ·intro y0 y1 y2 y3 y4
   unfold names_Lines.j0
   repeat' first
   | (with_reducible exact ih0 _ _ _ _ _)
   | (with_reducible exact ih1 _ _ _ _)
   | (with_reducible exact names_Check.mono _ _ _ _ _)
   | (with_reducible exact LeO.refl _)
   | (with_reducible exact LeO.none _)
   | (with_reducible refine LeO.ite ?_ ?_)
   | (with_reducible refine LeO.bind ?_ (fun _ => ?_))
   | exact ih0 _ _ _ _ _
   | exact ih1 _ _ _ _
   | exact names_Check.mono _ _ _ _ _
   | exact LeO.none _
   | refine LeO.ite ?_ ?_
   | refine LeO.bind ?_ (fun _ => ?_)
  ·intro y0 y1 y2 y3
   unfold names_Lines.l0
   repeat' first
   | (with_reducible exact ih0 _ _ _ _ _)
   | (with_reducible exact ih1 _ _ _ _)
   | (with_reducible exact names_Check.mono _ _ _ _ _)
   | (with_reducible exact LeO.refl _)
   | (with_reducible exact LeO.none _)
   | (with_reducible refine LeO.ite ?_ ?_)
   | (with_reducible refine LeO.bind ?_ (fun _ => ?_))
   | exact ih0 _ _ _ _ _
   | exact ih1 _ _ _ _
   | exact names_Check.mono _ _ _ _ _
   | exact LeO.none _
   | refine LeO.ite ?_ ?_
   | refine LeO.bind ?_ (fun _ => ?_)
theorem names_Lines.mono : ∀ a0 a1 a2 a3 k, LeO (names_Lines.f k a0 a1 a2 a3) (names_Lines.f (k + 1) a0 a1 a2 a3) := by
 intro a0 a1 a2 a3 k
 obtain ⟨ih0, ih1⟩ := names_Lines.mono_l k
 unfold names_Lines.f
 repeat' first
   | (with_reducible exact ih0 _ _ _ _ _)
   | (with_reducible exact ih1 _ _ _ _)
   | (with_reducible exact names_Check.mono _ _ _ _ _)
   | (with_reducible exact LeO.refl _)
   | (with_reducible exact LeO.none _)
   | (with_reducible refine LeO.ite ?_ ?_)
   | (with_reducible refine LeO.bind ?_ (fun _ => ?_))
   | exact ih0 _ _ _ _ _
   | exact ih1 _ _ _ _
   | exact names_Check.mono _ _ _ _ _
   | exact LeO.none _
   | refine LeO.ite ?_ ?_
   | refine LeO.bind ?_ (fun _ => ?_)
def names_Lines.T6 : Bool × List (List Nat × List Nat) := (true, [([], []), ([0], [0]), ([1], [1]), ([], []), ([2, 3], [2, 3]), ([4], [4]), ([], []), ([6], [6]), ([7], [7]), ([5, 8], [5, 8]), ([9], [9]), ([], []), ([11], [11]), ([12], [12]), ([13, 8], [13]), ([10, 14], [10, 14]), ([15], [15]), ([16, 14, 0, 1, 2, 3, 4, 5, 6, 7, 8, 9, 10, 11, 12, 13, 14, 15, 16], [16])])
def names_Lines.B6 : List Nat := [0, 1, 3, 0, 15, 31, 0, 64, 192, 511, 1023, 0, 2048, 6144, 14784, 32767, 65535, 131071]
theorem names_Lines.tab6 : rtab .any (opsOf Tryz.f18 6) = names_Lines.T6 := by kernel_rfl
theorem names_Lines.bits6 : waitsOk names_Lines.T6.2 names_Lines.B6 = true := by kernel_rfl
set_option maxHeartbeats 8000000 in
set_option maxRecDepth 100000 in
theorem names_Lines.calls (k : Nat) (a0_0 : ByteArray) (a0_1 : Bool) (a0_2 : Int) (A0_3 : Option Addr) (c0_3 : Nat) (l0_3 : List (S24)) (r : List ByteArray) (w : World) (hr0_3 : Kd.C k24 w A0_3 l0_3.length l0_3) (hc0_3 : l0_3.length ≤ c0_3) (h : names_Lines.f k a0_0 a0_1 a0_2 l0_3 = some r) :
  Calls Tryz.prog 18 #[.agg #[.string a0_0, .bool a0_1, .int .i64 a0_2, .slice A0_3 l0_3.length c0_3]] w fun e w' => ∃ v0_ : Value, e = .returned (v0_) ∧ Kd.R Kd.string 9 w' w.heap.size (fun _ => True) v0_ r ∧ Below w.heap.size w w' := by
 have hu39 := Tryz.underlying39
 have hu24 := Tryz.underlying24
 have HR0_3 := Aside0.mk hr0_3
 have HC0_3 := Aside0.mk hc0_3
 clear hr0_3 hc0_3
 have HB := Aside0.mk (Below.refl w.heap.size w)
 have H : ((names_Check.f k a0_0 a0_1 a0_2 l0_3).bind fun t128 => (if t128 = 0 then (if a0_1 = true then (names_Lines.j0 k (⟨#[111, 110]⟩ : ByteArray) a0_0 a0_1 a0_2 l0_3) else (names_Lines.j0 k (⟨#[111, 102, 102]⟩ : ByteArray) a0_0 a0_1 a0_2 l0_3)) else (some ([] : List ByteArray)))) = some r := h
 clear h
 replace H := Option.bind_eq_some_iff.mp H
 obtain ⟨t128, A20, H⟩ := H
 replace H : (if t128 = 0 then (if a0_1 = true then (names_Lines.j0 k (⟨#[111, 110]⟩ : ByteArray) a0_0 a0_1 a0_2 l0_3) else (names_Lines.j0 k (⟨#[111, 102, 102]⟩ : ByteArray) a0_0 a0_1 a0_2 l0_3)) else (some ([] : List ByteArray))) = some r := H
 have A2 := Aside0.mk A20
 clear A20
 by_cases c3 : t128 = 0
 ·rw [if_pos c3] at H
  have c3b0 : (t128 == 0) = true := beq_iff_eq.mpr c3
  have c3b1 : (t128 != 0) = false := bne_eq_false_iff_eq.mpr c3
  clear c3
  have HC4 := Aside0.mk H
  clear H
  go_enter Tryz.func18, Tryz.ntmps18
  go_upto_if 11 with (first | ((with_reducible refine gate_dst (N := 1) rfl ?_); refine box_event ?hg (N := 1) ?hd (cs := #[.string a0_0, .bool a0_1, .int .i64 a0_2, .slice A0_3 l0_3.length c0_3]) (t := 39) ?hr ?_; (case hd => rfl); (case hg => rfl); (case hr => first | (go_simp; done) | (go_simp; rfl)); intro gb127 hg w5 hbox hb; have n0_ := Aside0.mk (below_step (qB HB.out) hb); have n1_ := Aside0.mk (hbox); have n2_ := Aside0.mk ((qs hg (below_size (qB HB.out)) : w.heap.size ≤ gb127)); have n3_ := Aside0.mk ((qs hg (below_size (qB HB.out)) : w.heap.size ≤ gb127)); clear HB; have HB := n0_; have BK127 := n1_; have GW127 := n2_; have GE127 := n3_; clear n0_ n1_ n2_ n3_ hb hbox hg; have hcz6 := qC4 BK127.out) | ((with_reducible refine gate_callee (f := 28) rfl ?_); refine goesL_ (some 8) rfl rfl Tryz.func28 qr rfl #[.agg #[.string a0_0, .bool a0_1, .int .i64 a0_2, .slice A0_3 l0_3.length c0_3]] rfl qG ?_; (with_reducible refine (names_Check.calls k a0_0 a0_1 a0_2 _ _ l0_3 t128 _ ?side1 ?side2 A2.out).mono ?_); (case side1 => repeat (first | exact (Kd.C_below HR0_3.out HB.out) | (with_reducible refine Kd.C_alloc ?_ _) | (with_reducible refine Kd.C_drewN ?_ _) | (with_reducible refine Kd.C_drew ?_))); (case side2 => exact HC0_3.out); rintro e w7 ⟨rfl, hb⟩; refine ⟨_, rfl, ?_⟩; replace BK127 := Aside0.mk (blk_below (qK BK127.out) hb); replace HB := Aside0.mk (below_step (qB1 HB.out GE127.out) hb); (try clear hb); (try clear hb2); (try clear hk); (try clear hi); have hcz8 := qC4 BK127.out))
  (try simp only [Act.put, List.setIfInBounds_toArray, List.set_cons_zero, List.set_cons_succ])
  go_cut [3] (fun v3 wc => ∃ (kq : Nat) (x3_3 : ByteArray), v3 = .string x3_3 ∧ Aside0 (names_Lines.j0 kq x3_3 a0_0 a0_1 a0_2 l0_3 = some r) ∧ Aside0 (kq ≤ k) ∧ Aside0 (wc.heap[gb127]? = some (.cells #[.string a0_0, .bool a0_1, .int .i64 a0_2, (.slice A0_3 l0_3.length c0_3)] 39 (0, 0))) ∧ Aside0 (Below w.heap.size w wc))
  case first =>
   have H := HC4.out
   clear HC4
   by_cases c9 : a0_1 = true
   ·subst c9
    have H1 : (names_Lines.j0 k (⟨#[111, 110]⟩ : ByteArray) a0_0 true a0_2 l0_3) = some r := by rw [if_pos rfl] at H; exact H
    clear H
    have H := H1
    clear H1
    have H' := Aside0.mk H
    clear H
    go_wp2
    go_meet
    case rel => exact ⟨_, ((⟨#[111, 110]⟩ : ByteArray)), qE1, H', ⟨by first | omega | exact Nat.le_refl _⟩, ⟨by (with_reducible repeat (first | refine blk_drewN ?_ _ | refine blk_drew ?_ | refine blk_alloc ?_ _)); exact BK127.out⟩, ⟨by repeat (first | (with_reducible first | exact HB.out | apply below_alloc | apply pw_below_drewN | apply below_drew1 | refine below_set ?_ GE127.out) | exact HB.out)⟩⟩
   ·replace c9 := Bool.eq_false_iff.mpr c9
    subst c9
    have H1 : (names_Lines.j0 k (⟨#[111, 102, 102]⟩ : ByteArray) a0_0 false a0_2 l0_3) = some r := by rw [if_neg (show ¬ (false = true) by decide)] at H; exact H
    clear H
    have H := H1
    clear H1
    have H' := Aside0.mk H
    clear H
    go_wp2
    go_meet
    case rel => exact ⟨_, ((⟨#[111, 102, 102]⟩ : ByteArray)), qE1, H', ⟨by first | omega | exact Nat.le_refl _⟩, ⟨by (with_reducible repeat (first | refine blk_drewN ?_ _ | refine blk_drew ?_ | refine blk_alloc ?_ _)); exact BK127.out⟩, ⟨by repeat (first | (with_reducible first | exact HB.out | apply below_alloc | apply pw_below_drewN | apply below_drew1 | refine below_set ?_ GE127.out) | exact HB.out)⟩⟩
  case rest =>
   clear HC4
   try clear c1
   try clear c2
   try clear p2
   try clear c3
   try clear c3b0
   try clear c3b1
   try clear c9
   try clear hcz6
   try clear hcz8
   obtain ⟨kq, x3_3, rfl, HA, HJ3, BK127, HB⟩ := hcut
   cases kq with
   | zero => exact absurd HA.out (by simp [names_Lines.j0])
   | succ kj3 =>
    have H := HA.out
    clear HA
    simp only [names_Lines.j0] at H
    by_cases c10 : a0_0.size + 1 ≤ 9223372036854775807
    ·rw [if_pos c10] at H
     have c10b0 := eq_true c10
     have c10b1 : decide (a0_0.size + 1 ≤ 9223372036854775807) = true := decide_eq_true c10
     try have c10b2 : (9223372036854775807 < a0_0.size + 1) = False := eq_false (Nat.not_lt.2 c10)
     by_cases c11 : (a0_0 ++ (⟨#[32]⟩ : ByteArray)).size + x3_3.size ≤ 9223372036854775807
     ·rw [if_pos c11] at H
      have c11b0 := eq_true c11
      have c11b1 : decide ((a0_0 ++ (⟨#[32]⟩ : ByteArray)).size + x3_3.size ≤ 9223372036854775807) = true := decide_eq_true c11
      try have c11b2 : (9223372036854775807 < (a0_0 ++ (⟨#[32]⟩ : ByteArray)).size + x3_3.size) = False := eq_false (Nat.not_lt.2 c11)
      try have c11b3 := c11b2
      try simp only [ByteArray.size_append, pw_size_mk, List.size_toArray, List.length_cons, List.length_nil, Nat.zero_add] at c11b3
      by_cases c12 : ((a0_0 ++ (⟨#[32]⟩ : ByteArray)) ++ x3_3).size + 1 ≤ 9223372036854775807
      ·rw [if_pos c12] at H
       have c12b0 := eq_true c12
       have c12b1 : decide (((a0_0 ++ (⟨#[32]⟩ : ByteArray)) ++ x3_3).size + 1 ≤ 9223372036854775807) = true := decide_eq_true c12
       try have c12b2 : (9223372036854775807 < ((a0_0 ++ (⟨#[32]⟩ : ByteArray)) ++ x3_3).size + 1) = False := eq_false (Nat.not_lt.2 c12)
       try have c12b3 := c12b2
       try simp only [ByteArray.size_append, pw_size_mk, List.size_toArray, List.length_cons, List.length_nil, Nat.zero_add] at c12b3
       replace H := Option.bind_eq_some_iff.mp H
       obtain ⟨t129, A130, H⟩ := H
       replace H : (if (((a0_0 ++ (⟨#[32]⟩ : ByteArray)) ++ x3_3) ++ (⟨#[32]⟩ : ByteArray)).size + t129.size ≤ 9223372036854775807 then (if ((((a0_0 ++ (⟨#[32]⟩ : ByteArray)) ++ x3_3) ++ (⟨#[32]⟩ : ByteArray)) ++ t129).size + 1 ≤ 9223372036854775807 then ((tick_Text.f (l0_3.length : Int)).bind fun t130 => (if (((((a0_0 ++ (⟨#[32]⟩ : ByteArray)) ++ x3_3) ++ (⟨#[32]⟩ : ByteArray)) ++ t129) ++ (⟨#[32]⟩ : ByteArray)).size + t130.size ≤ 9223372036854775807 then (names_Lines.l0 kj3 (([(((((a0_0 ++ (⟨#[32]⟩ : ByteArray)) ++ x3_3) ++ (⟨#[32]⟩ : ByteArray)) ++ t129) ++ (⟨#[32]⟩ : ByteArray)) ++ t130] : List ByteArray)) l0_3 (l0_3.length : Int) 0) else (none))) else (none)) else (none)) = some r := H
       have A13 := Aside0.mk A130
       clear A130
       by_cases c14 : (((a0_0 ++ (⟨#[32]⟩ : ByteArray)) ++ x3_3) ++ (⟨#[32]⟩ : ByteArray)).size + t129.size ≤ 9223372036854775807
       ·rw [if_pos c14] at H
        have c14b0 := eq_true c14
        have c14b1 : decide ((((a0_0 ++ (⟨#[32]⟩ : ByteArray)) ++ x3_3) ++ (⟨#[32]⟩ : ByteArray)).size + t129.size ≤ 9223372036854775807) = true := decide_eq_true c14
        try have c14b2 : (9223372036854775807 < (((a0_0 ++ (⟨#[32]⟩ : ByteArray)) ++ x3_3) ++ (⟨#[32]⟩ : ByteArray)).size + t129.size) = False := eq_false (Nat.not_lt.2 c14)
        try have c14b3 := c14b2
        try simp only [ByteArray.size_append, pw_size_mk, List.size_toArray, List.length_cons, List.length_nil, Nat.zero_add] at c14b3
        by_cases c15 : ((((a0_0 ++ (⟨#[32]⟩ : ByteArray)) ++ x3_3) ++ (⟨#[32]⟩ : ByteArray)) ++ t129).size + 1 ≤ 9223372036854775807
        ·rw [if_pos c15] at H
         have c15b0 := eq_true c15
         have c15b1 : decide (((((a0_0 ++ (⟨#[32]⟩ : ByteArray)) ++ x3_3) ++ (⟨#[32]⟩ : ByteArray)) ++ t129).size + 1 ≤ 9223372036854775807) = true := decide_eq_true c15
         try have c15b2 : (9223372036854775807 < ((((a0_0 ++ (⟨#[32]⟩ : ByteArray)) ++ x3_3) ++ (⟨#[32]⟩ : ByteArray)) ++ t129).size + 1) = False := eq_false (Nat.not_lt.2 c15)
         try have c15b3 := c15b2
         try simp only [ByteArray.size_append, pw_size_mk, List.size_toArray, List.length_cons, List.length_nil, Nat.zero_add] at c15b3
         replace H := Option.bind_eq_some_iff.mp H
         obtain ⟨t130, A160, H⟩ := H
         replace H : (if (((((a0_0 ++ (⟨#[32]⟩ : ByteArray)) ++ x3_3) ++ (⟨#[32]⟩ : ByteArray)) ++ t129) ++ (⟨#[32]⟩ : ByteArray)).size + t130.size ≤ 9223372036854775807 then (names_Lines.l0 kj3 (([(((((a0_0 ++ (⟨#[32]⟩ : ByteArray)) ++ x3_3) ++ (⟨#[32]⟩ : ByteArray)) ++ t129) ++ (⟨#[32]⟩ : ByteArray)) ++ t130] : List ByteArray)) l0_3 (l0_3.length : Int) 0) else (none)) = some r := H
         have A16 := Aside0.mk A160
         clear A160
         by_cases c17 : (((((a0_0 ++ (⟨#[32]⟩ : ByteArray)) ++ x3_3) ++ (⟨#[32]⟩ : ByteArray)) ++ t129) ++ (⟨#[32]⟩ : ByteArray)).size + t130.size ≤ 9223372036854775807
         ·rw [if_pos c17] at H
          have c17b0 := eq_true c17
          have c17b1 : decide ((((((a0_0 ++ (⟨#[32]⟩ : ByteArray)) ++ x3_3) ++ (⟨#[32]⟩ : ByteArray)) ++ t129) ++ (⟨#[32]⟩ : ByteArray)).size + t130.size ≤ 9223372036854775807) = true := decide_eq_true c17
          try have c17b2 : (9223372036854775807 < (((((a0_0 ++ (⟨#[32]⟩ : ByteArray)) ++ x3_3) ++ (⟨#[32]⟩ : ByteArray)) ++ t129) ++ (⟨#[32]⟩ : ByteArray)).size + t130.size) = False := eq_false (Nat.not_lt.2 c17)
          try have c17b3 := c17b2
          try simp only [ByteArray.size_append, pw_size_mk, List.size_toArray, List.length_cons, List.length_nil, Nat.zero_add] at c17b3
          obtain ⟨y131, hy131⟩ : ∃ y_ : List ByteArray, y_ = (([(((((a0_0 ++ (⟨#[32]⟩ : ByteArray)) ++ x3_3) ++ (⟨#[32]⟩ : ByteArray)) ++ t129) ++ (⟨#[32]⟩ : ByteArray)) ++ t130] : List ByteArray)) := ⟨_, rfl⟩
          replace H : (names_Lines.l0 kj3 y131 l0_3 (l0_3.length : Int) 0) = some r := by first | (rw [hy131]; with_reducible exact H) | (have H2_ := (Option.bind_some _ _).symm.trans H; rw [hy131]; with_reducible exact H2_) | (have H2_ := (Option.bind_some _ _).symm.trans H; with_reducible exact H2_) | with_reducible exact H | (rw [hy131]; exact H) | exact H
          have Ny131 := Aside0.mk hy131
          clear hy131
          have H' := Aside0.mk H
          clear H
          try go_wp2
          replace BK127 := Aside0.mk (blk_drew BK127.out)
          replace HB := Aside0.mk (below_drew1 HB.out)
          refine start_ (n := 18) (S := fun w' => w'.cell? ⟨gb127, 0, none⟩ = some (.string a0_0) ∧ w'.cell? ⟨gb127, 1, none⟩ = some (.bool a0_1) ∧ w'.cell? ⟨gb127, 2, none⟩ = some (.int .i64 a0_2) ∧ w'.cell? ⟨gb127, 3, none⟩ = some (.slice A0_3 l0_3.length c0_3)) (ds := []) #[false, false, false, false, false, false, false, false, false, false, false, false, false, false, false, false, false, false] qr rfl rfl ⟨(blk_cell BK127.out 0).trans rfl, (blk_cell BK127.out 1).trans rfl, (blk_cell BK127.out 2).trans rfl, (blk_cell BK127.out 3).trans rfl⟩ (fun hHeld => ?_); refine with_tabW names_Lines.tab6 names_Lines.bits6 (fun HT_ HW_ => ?_)
          generalize wc.drew = w18 at BK127 HB hHeld ⊢
          refine qP (i := 0) (N := some 12) HT_.out ?_
          refine qP (i := 3) (N := some 15) HT_.out ?_
          refine qP (i := 6) (N := some 18) HT_.out ?_
          refine qP (i := 11) (N := some 23) HT_.out ?_
          refine take_ (i := 1) (N := some 13) (v := ?_) (a' := ?_) #[true, true, false, true, false, false, true, false, false, false, false, true, false, false, false, false, false, false] rfl rfl (take_ofW HT_.out HW_.out qr) (fun _ _ _ h => h) (Or.inl ⟨by rfl, ?_⟩) hHeld ?_ ?_
          rotate_left
          ·rintro w' ⟨s0, s1, s2, s3⟩
           go_simp
           with_reducible rfl
          rotate_left
          ·simp only [Act.put, List.setIfInBounds_toArray, List.set_cons_zero, List.set_cons_succ, i64_w, i32_w]
           rfl
          refine qP (i := 2) (N := some 14) HT_.out ?_
          refine qP (i := 4) (N := some 16) HT_.out ?_
          refine qP (i := 5) (N := some 17) HT_.out ?_
          refine take_ (i := 7) (N := some 19) (v := ?_) (a' := ?_) #[true, true, true, true, true, true, true, true, false, false, false, true, false, false, false, false, false, false] rfl rfl (take_ofW HT_.out HW_.out qr) (fun _ _ _ h => h) (Or.inl ⟨by rfl, ?_⟩) hHeld ?_ ?_
          rotate_left
          ·rintro w' ⟨s0, s1, s2, s3⟩
           go_simp
           with_reducible rfl
          rotate_left
          ·simp only [Act.put, List.setIfInBounds_toArray, List.set_cons_zero, List.set_cons_succ, i64_w, i32_w]
           rfl
          refine take_ (i := 12) (N := some 24) (v := ?_) (a' := ?_) #[true, true, true, true, true, true, true, true, false, false, false, true, true, false, false, false, false, false] rfl rfl (take_ofW HT_.out HW_.out qr) (fun _ _ _ h => h) (Or.inl ⟨by rfl, ?_⟩) hHeld ?_ ?_
          rotate_left
          ·rintro w' ⟨s0, s1, s2, s3⟩
           go_simp
           with_reducible rfl
          rotate_left
          ·simp only [Act.put, List.setIfInBounds_toArray, List.set_cons_zero, List.set_cons_succ, i64_w, i32_w]
           rfl
          refine qP (i := 13) (N := some 25) HT_.out ?_
          refine qO (i := 8) (N := some 20) HT_.out (fun K hK => ?_)
          refine goes_ Tryz.func42 qr rfl #[.int .i64 a0_2] (by rfl) rfl rfl qG ?_
          with_reducible refine (tick_Text.calls a0_2 t129 _ A13.out).mono ?_
          rintro e w19 ⟨rfl, hb⟩
          refine ⟨_, rfl, ?_⟩
          replace BK127 := Aside0.mk (blk_below (qK BK127.out) hb)
          replace HB := Aside0.mk (below_step (qB1 HB.out GE127.out) hb)
          (try clear hb)
          (try clear hb2)
          (try clear hk)
          (try clear hi)
          refine hK.out _ _ ⟨(blk_cell BK127.out 0).trans rfl, (blk_cell BK127.out 1).trans rfl, (blk_cell BK127.out 2).trans rfl, (blk_cell BK127.out 3).trans rfl⟩ (fun hHeld => ?_)
          clear hK K
          refine qM (N := some 20) ?_
          refine qP (i := 9) (N := some 21) HT_.out ?_
          refine qP (i := 10) (N := some 22) HT_.out ?_
          refine qO (i := 14) (N := some 26) HT_.out (fun K hK => ?_)
          refine goes_ Tryz.func42 qr rfl #[.int .i64 (l0_3.length : Int)] (by rfl) rfl rfl qG ?_
          with_reducible refine (tick_Text.calls (l0_3.length : Int) t130 _ A16.out).mono ?_
          rintro e w20 ⟨rfl, hb⟩
          refine ⟨_, rfl, ?_⟩
          replace BK127 := Aside0.mk (blk_below (qK BK127.out) hb)
          replace HB := Aside0.mk (below_step (qB1 HB.out GE127.out) hb)
          (try clear hb)
          (try clear hb2)
          (try clear hk)
          (try clear hi)
          refine hK.out _ _ ⟨(blk_cell BK127.out 0).trans rfl, (blk_cell BK127.out 1).trans rfl, (blk_cell BK127.out 2).trans rfl, (blk_cell BK127.out 3).trans rfl⟩ (fun hHeld => ?_)
          clear hK K
          refine qM (N := some 26) ?_
          refine qP (i := 15) (N := some 27) HT_.out ?_
          refine qO (i := 16) (N := some 28) HT_.out (fun K hK => ?_)
          refine Kd.R_lit_step Kd.string _ 9 ?hg (N := 28) ?hd (xs := ([(((((a0_0 ++ (⟨#[32]⟩ : ByteArray)) ++ x3_3) ++ (⟨#[32]⟩ : ByteArray)) ++ t129) ++ (⟨#[32]⟩ : ByteArray)) ++ t130] : List ByteArray)) (inner := [.string ((((((a0_0 ++ (⟨#[32]⟩ : ByteArray)) ++ x3_3) ++ (⟨#[32]⟩ : ByteArray)) ++ t129) ++ (⟨#[32]⟩ : ByteArray)) ++ t130)]) (ok := fun _ => True) (okp := fun _ => True) ?hr ?hp (fun _ hk => hk) trivial (Below.refl _ _) (Nat.le_refl _) (by simp) ?_; (case hd => rfl); (case hg => rfl); (case hr => first | (go_simp; done) | (go_simp; rfl)); (case hp => exact (Reps.one (show Kd.M Kd.string _ _ _ ((((((a0_0 ++ (⟨#[32]⟩ : ByteArray)) ++ x3_3) ++ (⟨#[32]⟩ : ByteArray)) ++ t129) ++ (⟨#[32]⟩ : ByteArray)) ++ t130) [.string ((((((a0_0 ++ (⟨#[32]⟩ : ByteArray)) ++ x3_3) ++ (⟨#[32]⟩ : ByteArray)) ++ t129) ++ (⟨#[32]⟩ : ByteArray)) ++ t130)] from rfl) (Reps.none _ _)))
          intro v132 w21 ho22 hb hg_ hnew_
          clear hg_ hnew_
          (first | rw [← Ny131.out] at ho22 | (simp only [Int.reduceToNat] at ho22; rw [← Ny131.out] at ho22))
          have HO133 := Aside0.mk (Kd.R_lower ho22 (below_size (qB1 HB.out GE127.out)))
          replace BK127 := Aside0.mk (blk_below (qK BK127.out) hb)
          replace HB := Aside0.mk (below_step (qB1 HB.out GE127.out) hb)
          clear hb ho22
          refine hK.out _ _ ⟨(blk_cell BK127.out 0).trans rfl, (blk_cell BK127.out 1).trans rfl, (blk_cell BK127.out 2).trans rfl, (blk_cell BK127.out 3).trans rfl⟩ (fun hHeld => ?_)
          clear hK K
          refine qM (N := some 28) ?_
          refine qP (i := 17) (N := some 4) HT_.out ?_
          refine done_ (done_of HT_.out qr) ?_
          have hcz23 := qC4 BK127.out
          try go_wp2
          go_loopg [4, 32] kj3 (fun kq v4 v32 w' => ∃ (x4_2 : List ByteArray) (x32_2 : Int), v32 = .int .i64 x32_2 ∧ Aside0 (names_Lines.l0 kq x4_2 l0_3 (l0_3.length : Int) x32_2 = some r) ∧ Aside0 (kq ≤ kj3) ∧ Aside0 (Kd.R Kd.string 9 w' w.heap.size (fun _ => True) v4 x4_2) ∧ Aside0 (w'.heap[gb127]? = some (.cells #[.string a0_0, .bool a0_1, .int .i64 a0_2, (.slice A0_3 l0_3.length c0_3)] 39 (0, 0))) ∧ Aside0 (Below w.heap.size w w'))
          case atStart => exact ⟨(y131), (0), qE1, H', ⟨Nat.le_refl _⟩, ⟨by (with_reducible repeat (first | apply Kd.R_alloc | apply Kd.R_drewN | apply Kd.R_drew)); exact HO133.out⟩, ⟨by (with_reducible repeat (first | refine blk_drewN ?_ _ | refine blk_drew ?_ | refine blk_alloc ?_ _)); exact BK127.out⟩, ⟨by repeat (first | (with_reducible first | exact HB.out | apply below_alloc | apply pw_below_drewN | apply below_drew1 | refine below_set ?_ GE127.out) | exact HB.out)⟩⟩
          case round =>
           clear H'
           try clear c1
           try clear c2
           try clear p2
           try clear c3
           try clear c3b0
           try clear c3b1
           try clear c4
           try clear c9
           try clear c10
           try clear c10b0
           try clear c10b1
           try clear c10b2
           try clear c10b3
           try clear c11
           try clear c11b0
           try clear c11b1
           try clear c11b2
           try clear c11b3
           try clear c12
           try clear c12b0
           try clear c12b1
           try clear c12b2
           try clear c12b3
           try clear c14
           try clear c14b0
           try clear c14b1
           try clear c14b2
           try clear c14b3
           try clear c15
           try clear c15b0
           try clear c15b1
           try clear c15b2
           try clear c15b3
           try clear c17
           try clear c17b0
           try clear c17b1
           try clear c17b2
           try clear c17b3
           try clear c18
           try clear hcz23
           try clear hcz6
           try clear hcz8
           try clear p2
           obtain ⟨x4_2, x32_2, rfl, HA, HK2, HO_4, BK127, HB⟩ := hrel
           cases gk with
           | zero => exact absurd HA.out (by simp [names_Lines.l0])
           | succ k2 =>
            have H := HA.out
            clear HA
            simp only [names_Lines.l0] at H
            by_cases c24 : x32_2 < (l0_3.length : Int)
            ·rw [if_pos c24] at H
             have c24b0 : decide (x32_2 < (l0_3.length : Int)) = true := decide_eq_true c24
             clear c24
             by_cases c25 : 0 ≤ x32_2
             ·rw [if_pos c25] at H
              have c25b0 : decide (0 ≤ x32_2) = true := decide_eq_true c25
              clear c25
              by_cases c26 : x32_2 < (l0_3.length : Int)
              ·rw [if_pos c26] at H
               have c26b0 : decide (x32_2 < (l0_3.length : Int)) = true := decide_eq_true c26
               clear c26
               replace H := Option.bind_eq_some_iff.mp H
               obtain ⟨t136, A270, H⟩ := H
               replace H : (if x4_2.length < 8796093022208 then (names_Lines.l0 k2 (x4_2 ++ [t136]) l0_3 (l0_3.length : Int) (wrap64 (x32_2 + 1))) else (none)) = some r := H
               have A27 := Aside0.mk A270
               clear A270
               by_cases c28 : x4_2.length < 8796093022208
               ·rw [if_pos c28] at H
                have LMc28 := Aside0.mk c28
                clear c28
                obtain ⟨y137, hy137⟩ : ∃ y_ : List ByteArray, y_ = (x4_2 ++ [t136]) := ⟨_, rfl⟩
                replace H : (names_Lines.l0 k2 y137 l0_3 (l0_3.length : Int) (wrap64 (x32_2 + 1))) = some r := by first | (rw [hy137]; with_reducible exact H) | (have H2_ := (Option.bind_some _ _).symm.trans H; rw [hy137]; with_reducible exact H2_) | (have H2_ := (Option.bind_some _ _).symm.trans H; with_reducible exact H2_) | with_reducible exact H | (rw [hy137]; exact H) | exact H
                have Ny137 := Aside0.mk hy137
                clear hy137
                have H' := Aside0.mk H
                clear H
                have p134 : 0 ≤ (x32_2 : Int) := of_decide_eq_true qA
                have q134 : x32_2 < (l0_3.length : Int) := of_decide_eq_true qA
                obtain ⟨ad134, e134, hx134_0, hx134_1, hx134_2, hx134_3, hx134_4, hx134_5⟩ := at_T24 HR0_3.out x32_2 p134 q134
                cases e134
                replace hx134_0 := (HB.out.cell (World.block_lt_of_cell? w _ hx134_0)).trans hx134_0
                replace hx134_1 := (HB.out.cell (World.block_lt_of_cell? w _ hx134_1)).trans hx134_1
                replace hx134_2 := (HB.out.cell (World.block_lt_of_cell? w _ hx134_2)).trans hx134_2
                replace hx134_3 := (HB.out.cell (World.block_lt_of_cell? w _ hx134_3)).trans hx134_3
                replace hx134_4 := (HB.out.cell (World.block_lt_of_cell? w _ hx134_4)).trans hx134_4
                replace hx134_5 := (HB.out.cell (World.block_lt_of_cell? w _ hx134_5)).trans hx134_5
                replace p134 := eq_true p134
                replace q134 := eq_true q134
                go_wp2_with (first | ((with_reducible refine gate_dst (N := 6) rfl ?_); refine box_event ?hg (N := 6) ?hd (cs := #[.string (⟨#[]⟩ : ByteArray), .int .i64 0, .bool false, .int .i64 0, .int .i64 0, .int .i64 0]) (t := 24) ?hr ?_; (case hd => rfl); (case hg => rfl); (case hr => first | (go_simp; done) | (go_simp; rfl)); intro gb135 hg w29 hbox hb; have n0_ := Aside0.mk (Kd.R_below (qR HO_4.out) hb); have n1_ := Aside0.mk (blk_below (qK BK127.out) hb); have n2_ := Aside0.mk (below_step (qB1 HB.out GE127.out) hb); have n3_ := Aside0.mk (hbox); have n4_ := Aside0.mk ((qs hg (below_size (qB1 HB.out GE127.out)) : w.heap.size ≤ gb135)); have n5_ := Aside0.mk ((qs hg (below_size (qB1 HB.out GE127.out)) : w.heap.size ≤ gb135)); have n6_ := Aside0.mk ((by rw [hg]; exact Nat.ne_of_lt (blk_lt (qK BK127.out)) : gb127 ≠ gb135)); have n7_ := Aside0.mk ((by rw [hg]; exact Nat.ne_of_gt (blk_lt (qK BK127.out)) : gb135 ≠ gb127)); clear HO_4 BK127 HB; have HO_4 := n0_; have BK127 := n1_; have HB := n2_; have BK135 := n3_; have GW135 := n4_; have GE135 := n5_; have NB127_135 := n6_; have NB135_127 := n7_; clear n0_ n1_ n2_ n3_ n4_ n5_ n6_ n7_ hb hbox hg; have hnb30 := NB135_127.out; have hnc30 := NB127_135.out; have hcz31 := qC6 BK135.out) | ((with_reducible refine gate_callee (f := 43) rfl ?_); refine goesL_ (some 38) rfl rfl Tryz.func43 qr rfl #[.agg #[.string ((rd_T24 l0_3 x32_2).f0), .int .i64 ((rd_T24 l0_3 x32_2).f1), .bool ((rd_T24 l0_3 x32_2).f2), .int .i64 ((rd_T24 l0_3 x32_2).f3), .int .i64 ((rd_T24 l0_3 x32_2).f4), .int .i64 ((rd_T24 l0_3 x32_2).f5)]] rfl qG ?_; (with_reducible refine (toxic_Text.calls ((rd_T24 l0_3 x32_2).f0) ((rd_T24 l0_3 x32_2).f1) ((rd_T24 l0_3 x32_2).f2) ((rd_T24 l0_3 x32_2).f3) ((rd_T24 l0_3 x32_2).f4) ((rd_T24 l0_3 x32_2).f5) t136 _ A27.out).mono ?_); rintro e w32 ⟨rfl, hb⟩; refine ⟨_, rfl, ?_⟩; replace HO_4 := Aside0.mk (Kd.R_below (qR ((Kd.R_mono (Kd.R_far (p := ⟨gb135, 5, none⟩) (Kd.R_far (p := ⟨gb135, 4, none⟩) (Kd.R_far (p := ⟨gb135, 3, none⟩) (Kd.R_far (p := ⟨gb135, 2, none⟩) (Kd.R_far (p := ⟨gb135, 1, none⟩) (Kd.R_far (p := ⟨gb135, 0, none⟩) (Kd.R_types HO_4.out BK135.out (by decide)) (fun _ hk => hk.2) (.string ((rd_T24 l0_3 x32_2).f0))) (fun _ hk => hk.2) (.int .i64 ((rd_T24 l0_3 x32_2).f1))) (fun _ hk => hk.2) (.bool ((rd_T24 l0_3 x32_2).f2))) (fun _ hk => hk.2) (.int .i64 ((rd_T24 l0_3 x32_2).f3))) (fun _ hk => hk.2) (.int .i64 ((rd_T24 l0_3 x32_2).f4))) (fun _ hk => hk.2) (.int .i64 ((rd_T24 l0_3 x32_2).f5))) (fun _ h_ => h_.1)))) hb); replace BK127 := Aside0.mk (blk_below (g := gb127) (o := .cells #[.string a0_0, .bool a0_1, .int .i64 a0_2, .slice (some ad134) l0_3.length c0_3] 39 (0, 0)) (by (with_reducible repeat (first | refine blk_drewN ?_ _ | refine blk_drew ?_ | refine blk_alloc ?_ _)); refine blk_far ?_ NB127_135.out _; (with_reducible repeat (first | refine blk_drewN ?_ _ | refine blk_drew ?_ | refine blk_alloc ?_ _)); refine blk_far ?_ NB127_135.out _; (with_reducible repeat (first | refine blk_drewN ?_ _ | refine blk_drew ?_ | refine blk_alloc ?_ _)); refine blk_far ?_ NB127_135.out _; (with_reducible repeat (first | refine blk_drewN ?_ _ | refine blk_drew ?_ | refine blk_alloc ?_ _)); refine blk_far ?_ NB127_135.out _; (with_reducible repeat (first | refine blk_drewN ?_ _ | refine blk_drew ?_ | refine blk_alloc ?_ _)); refine blk_far ?_ NB127_135.out _; (with_reducible repeat (first | refine blk_drewN ?_ _ | refine blk_drew ?_ | refine blk_alloc ?_ _)); refine blk_far ?_ NB127_135.out _; (with_reducible repeat (first | refine blk_drewN ?_ _ | refine blk_drew ?_ | refine blk_alloc ?_ _)); exact BK127.out) hb); replace BK135 := Aside0.mk (blk_below (g := gb135) (o := .cells #[.string ((rd_T24 l0_3 x32_2).f0), .int .i64 ((rd_T24 l0_3 x32_2).f1), .bool ((rd_T24 l0_3 x32_2).f2), .int .i64 ((rd_T24 l0_3 x32_2).f3), .int .i64 ((rd_T24 l0_3 x32_2).f4), .int .i64 ((rd_T24 l0_3 x32_2).f5)] 24 (0, 0)) (by (with_reducible repeat (first | refine blk_drewN ?_ _ | refine blk_drew ?_ | refine blk_alloc ?_ _)); refine blk_put (cs := #[.string ((rd_T24 l0_3 x32_2).f0), .int .i64 ((rd_T24 l0_3 x32_2).f1), .bool ((rd_T24 l0_3 x32_2).f2), .int .i64 ((rd_T24 l0_3 x32_2).f3), .int .i64 ((rd_T24 l0_3 x32_2).f4), .int .i64 0]) ?_ 5 _ rfl; (with_reducible repeat (first | refine blk_drewN ?_ _ | refine blk_drew ?_ | refine blk_alloc ?_ _)); refine blk_put (cs := #[.string ((rd_T24 l0_3 x32_2).f0), .int .i64 ((rd_T24 l0_3 x32_2).f1), .bool ((rd_T24 l0_3 x32_2).f2), .int .i64 ((rd_T24 l0_3 x32_2).f3), .int .i64 0, .int .i64 0]) ?_ 4 _ rfl; (with_reducible repeat (first | refine blk_drewN ?_ _ | refine blk_drew ?_ | refine blk_alloc ?_ _)); refine blk_put (cs := #[.string ((rd_T24 l0_3 x32_2).f0), .int .i64 ((rd_T24 l0_3 x32_2).f1), .bool ((rd_T24 l0_3 x32_2).f2), .int .i64 0, .int .i64 0, .int .i64 0]) ?_ 3 _ rfl; (with_reducible repeat (first | refine blk_drewN ?_ _ | refine blk_drew ?_ | refine blk_alloc ?_ _)); refine blk_put (cs := #[.string ((rd_T24 l0_3 x32_2).f0), .int .i64 ((rd_T24 l0_3 x32_2).f1), .bool false, .int .i64 0, .int .i64 0, .int .i64 0]) ?_ 2 _ rfl; (with_reducible repeat (first | refine blk_drewN ?_ _ | refine blk_drew ?_ | refine blk_alloc ?_ _)); refine blk_put (cs := #[.string ((rd_T24 l0_3 x32_2).f0), .int .i64 0, .bool false, .int .i64 0, .int .i64 0, .int .i64 0]) ?_ 1 _ rfl; (with_reducible repeat (first | refine blk_drewN ?_ _ | refine blk_drew ?_ | refine blk_alloc ?_ _)); refine blk_put (cs := #[.string (⟨#[]⟩ : ByteArray), .int .i64 0, .bool false, .int .i64 0, .int .i64 0, .int .i64 0]) ?_ 0 _ rfl; (with_reducible repeat (first | refine blk_drewN ?_ _ | refine blk_drew ?_ | refine blk_alloc ?_ _)); exact BK135.out) hb); replace HB := Aside0.mk (below_step (qB2 HB.out GE127.out GE135.out) hb); (try clear hb); (try clear hb2); (try clear hk); (try clear hi)) | ((with_reducible refine gate_builtin (b := .append) (xs := #[.tmp 36, .tmp 39]) rfl ?_); at_builtin; refine Kd.R_append Kd.string (w0 := w) w.heap.size rfl (.tmp 36) (.tmp 39) 45 9 (.string ⟨#[]⟩) 16 rfl Tryz.underlying45 info9 rfl (by decide) (by omega) u4 x4_2 t136 [.string t136] (fun _ => True) (fun _ => False) rfl rfl ?aP (fun _ hk => hk.elim) ?aF ?aO ?aB ?aS ?aL ?_; (case aP => exact rfl); (case aB => exact (qB2 HB.out GE127.out GE135.out)); (case aF => exact (fun _ _ => trivial)); (case aO => exact (qR HO_4.out)); (case aS => exact (below_size (qB2 HB.out GE127.out GE135.out))); (case aL => have := LMc28.out; omega); intro v138 w33 ho hb hg hat; rw [← Ny137.out] at ho; replace BK127 := Aside0.mk (blk_grown (qK BK127.out) hg (Kd.R_ne HO_4.out BK127.out (by decide))); replace BK135 := Aside0.mk (blk_grown (qK BK135.out) hg (Kd.R_ne HO_4.out BK135.out (by decide))); replace HB := Aside0.mk (hb); have HO139 := Aside0.mk (ho); clear HO_4 ho hb hg hat))
                go_roundg k2
                case measure => have := HJ3.out; have := HK2.out; omega
                case rel => exact ⟨(y137), (wrap64 (x32_2 + 1)), qE1, H', ⟨by have := HJ3.out; have := HK2.out; omega⟩, ⟨by (with_reducible repeat (first | apply Kd.R_alloc | apply Kd.R_drewN | apply Kd.R_drew)); exact HO139.out⟩, ⟨by (with_reducible repeat (first | refine blk_drewN ?_ _ | refine blk_drew ?_ | refine blk_alloc ?_ _)); exact BK127.out⟩, ⟨by repeat (first | (with_reducible first | exact HB.out | apply below_alloc | apply pw_below_drewN | apply below_drew1 | refine below_set ?_ GE127.out | refine below_set ?_ GE135.out) | exact HB.out)⟩⟩
               ·rw [if_neg c28] at H
                exact absurd H (by simp)
              ·rw [if_neg c26] at H
               exact absurd H (by simp)
             ·rw [if_neg c25] at H
              exact absurd H (by simp)
            ·rw [if_neg c24] at H
             have c24b0 : decide (x32_2 < (l0_3.length : Int)) = false := decide_eq_false c24
             clear c24
             obtain rfl := Option.some.inj H
             go_wp2
             go_ret
             exact ⟨_, qE, by (with_reducible repeat (first | apply Kd.R_alloc | apply Kd.R_drewN | apply Kd.R_drew)); exact HO_4.out, by repeat (first | (with_reducible first | exact HB.out | apply below_alloc | apply pw_below_drewN | apply below_drew1 | refine below_set ?_ GE127.out) | exact HB.out)⟩
         ·rw [if_neg c17] at H
          exact absurd H (by simp)
        ·rw [if_neg c15] at H
         exact absurd H (by simp)
       ·rw [if_neg c14] at H
        exact absurd H (by simp)
      ·rw [if_neg c12] at H
       exact absurd H (by simp)
     ·rw [if_neg c11] at H
      exact absurd H (by simp)
    ·rw [if_neg c10] at H
     exact absurd H (by simp)
 ·rw [if_neg c3] at H
  have c3b0 : (t128 == 0) = false := beq_eq_false_iff_ne.mpr c3
  have c3b1 : (t128 != 0) = true := bne_iff_ne.mpr c3
  obtain rfl := Option.some.inj H
  go_enter Tryz.func18, Tryz.ntmps18
  go_wp2_with (first | ((with_reducible refine gate_dst (N := 1) rfl ?_); refine box_event ?hg (N := 1) ?hd (cs := #[.string a0_0, .bool a0_1, .int .i64 a0_2, .slice A0_3 l0_3.length c0_3]) (t := 39) ?hr ?_; (case hd => rfl); (case hg => rfl); (case hr => first | (go_simp; done) | (go_simp; rfl)); intro gb127 hg w34 hbox hb; have n0_ := Aside0.mk (below_step (qB HB.out) hb); have n1_ := Aside0.mk (hbox); have n2_ := Aside0.mk ((qs hg (below_size (qB HB.out)) : w.heap.size ≤ gb127)); have n3_ := Aside0.mk ((qs hg (below_size (qB HB.out)) : w.heap.size ≤ gb127)); clear HB; have HB := n0_; have BK127 := n1_; have GW127 := n2_; have GE127 := n3_; clear n0_ n1_ n2_ n3_ hb hbox hg; have hcz35 := qC4 BK127.out) | ((with_reducible refine gate_callee (f := 28) rfl ?_); refine goesL_ (some 8) rfl rfl Tryz.func28 qr rfl #[.agg #[.string a0_0, .bool a0_1, .int .i64 a0_2, .slice A0_3 l0_3.length c0_3]] rfl qG ?_; (with_reducible refine (names_Check.calls k a0_0 a0_1 a0_2 _ _ l0_3 t128 _ ?side1 ?side2 A2.out).mono ?_); (case side1 => repeat (first | exact (Kd.C_below HR0_3.out HB.out) | (with_reducible refine Kd.C_alloc ?_ _) | (with_reducible refine Kd.C_drewN ?_ _) | (with_reducible refine Kd.C_drew ?_))); (case side2 => exact HC0_3.out); rintro e w36 ⟨rfl, hb⟩; refine ⟨_, rfl, ?_⟩; replace BK127 := Aside0.mk (blk_below (qK BK127.out) hb); replace HB := Aside0.mk (below_step (qB1 HB.out GE127.out) hb); (try clear hb); (try clear hb2); (try clear hk); (try clear hi)))
  go_ret
  exact ⟨_, qE, by first | exact Kd.R_nil _ _ _ _ _ | exact Kd.N_nil _ _ _ _ _ | exact Kd.V_nil _ _ _ _ _ | exact Kd.Q_nil _ _ _ _ _ | exact Kd.S_nil _ _ _ _ _, by repeat (first | (with_reducible first | exact HB.out | apply below_alloc | apply pw_below_drewN | apply below_drew1 | refine below_set ?_ GE127.out) | exact HB.out)⟩
def chicanelaw14_alive.f (k : Nat)  : Option (Bool) := (names_Add.f ([] : List (S39)) (⟨#[97]⟩ : ByteArray) 3).bind fun bt140 => ((names_AddToxic.f bt140.1 (⟨#[97]⟩ : ByteArray) (⟨#[108, 97, 103]⟩ : ByteArray) 1 true 100 5 1).bind fun bt144 => ((names_Find.f bt144.1 (⟨#[97]⟩ : ByteArray)).bind fun bt148 => ((names_Lines.f k bt148.1 bt148.2.1 bt148.2.2.1 bt148.2.2.2.1).bind fun t156 => ((names_Drop.f bt144.1 (⟨#[98]⟩ : ByteArray)).bind fun bt159 => (if bt140.2 = 0 then (if bt144.2 = 0 then (if bt148.2.2.2.2 = true then (if (t156.length : Int) = 2 then (if 0 < (t156.length : Int) then (if (rdOf ByteArray.empty t156 0).toList = ([97, 32, 111, 110, 32, 51, 32, 49] : List UInt8) then (if 1 < (t156.length : Int) then (if (rdOf ByteArray.empty t156 1).toList = ([108, 97, 103, 32, 108, 97, 116, 101, 110, 99, 121, 32, 117, 112, 32, 49, 48, 48, 32, 53, 32, 49] : List UInt8) then (if bt159.2 = 142 then ((names_Right.f k bt144.1).bind fun t165 => (if t165 = true then ((names_Same.f bt144.1 bt144.1).bind fun t166 => (some t166)) else (some false))) else (some false)) else (some false)) else (none)) else (some false)) else (none)) else (some false)) else (some false)) else (some false)) else (some false))))))
theorem chicanelaw14_alive.mono : ∀ k, LeO (chicanelaw14_alive.f k ) (chicanelaw14_alive.f (k + 1) ) := by
 intro  k
 unfold chicanelaw14_alive.f
 repeat' first
   | (with_reducible exact names_Lines.mono _ _ _ _ _)
   | (with_reducible exact names_Right.mono _ _)
   | (with_reducible exact LeO.refl _)
   | (with_reducible exact LeO.none _)
   | (with_reducible refine LeO.ite ?_ ?_)
   | (with_reducible refine LeO.bind ?_ (fun _ => ?_))
   | exact names_Lines.mono _ _ _ _ _
   | exact names_Right.mono _ _
   | exact LeO.none _
   | refine LeO.ite ?_ ?_
   | refine LeO.bind ?_ (fun _ => ?_)
set_option maxHeartbeats 8000000 in
set_option maxRecDepth 100000 in
theorem chicanelaw14_alive.calls_t (k : Nat)  (r : Bool) (w : World) (hr : r = true) (h : chicanelaw14_alive.f k  = some r) :
  Calls Tryz.prog 8 #[] w fun e w' => e = .returned (.bool r) ∧ Below w.heap.size w w' := by
 have hu24 := Tryz.underlying24
 have hu39 := Tryz.underlying39
 have HB := Aside0.mk (Below.refl w.heap.size w)
 have H : ((names_Add.f ([] : List (S39)) (⟨#[97]⟩ : ByteArray) 3).bind fun bt140 => ((names_AddToxic.f bt140.1 (⟨#[97]⟩ : ByteArray) (⟨#[108, 97, 103]⟩ : ByteArray) 1 true 100 5 1).bind fun bt144 => ((names_Find.f bt144.1 (⟨#[97]⟩ : ByteArray)).bind fun bt148 => ((names_Lines.f k bt148.1 bt148.2.1 bt148.2.2.1 bt148.2.2.2.1).bind fun t156 => ((names_Drop.f bt144.1 (⟨#[98]⟩ : ByteArray)).bind fun bt159 => (if bt140.2 = 0 then (if bt144.2 = 0 then (if bt148.2.2.2.2 = true then (if (t156.length : Int) = 2 then (if 0 < (t156.length : Int) then (if (rdOf ByteArray.empty t156 0).toList = ([97, 32, 111, 110, 32, 51, 32, 49] : List UInt8) then (if 1 < (t156.length : Int) then (if (rdOf ByteArray.empty t156 1).toList = ([108, 97, 103, 32, 108, 97, 116, 101, 110, 99, 121, 32, 117, 112, 32, 49, 48, 48, 32, 53, 32, 49] : List UInt8) then (if bt159.2 = 142 then ((names_Right.f k bt144.1).bind fun t165 => (if t165 = true then ((names_Same.f bt144.1 bt144.1).bind fun t166 => (some t166)) else (some false))) else (some false)) else (some false)) else (none)) else (some false)) else (none)) else (some false)) else (some false)) else (some false)) else (some false))))))) = some r := h
 clear h
 replace H := Option.bind_eq_some_iff.mp H
 obtain ⟨⟨t140, t141⟩, A10, H⟩ := H
 replace H : ((names_AddToxic.f t140 (⟨#[97]⟩ : ByteArray) (⟨#[108, 97, 103]⟩ : ByteArray) 1 true 100 5 1).bind fun bt144 => ((names_Find.f bt144.1 (⟨#[97]⟩ : ByteArray)).bind fun bt148 => ((names_Lines.f k bt148.1 bt148.2.1 bt148.2.2.1 bt148.2.2.2.1).bind fun t156 => ((names_Drop.f bt144.1 (⟨#[98]⟩ : ByteArray)).bind fun bt159 => (if t141 = 0 then (if bt144.2 = 0 then (if bt148.2.2.2.2 = true then (if (t156.length : Int) = 2 then (if 0 < (t156.length : Int) then (if (rdOf ByteArray.empty t156 0).toList = ([97, 32, 111, 110, 32, 51, 32, 49] : List UInt8) then (if 1 < (t156.length : Int) then (if (rdOf ByteArray.empty t156 1).toList = ([108, 97, 103, 32, 108, 97, 116, 101, 110, 99, 121, 32, 117, 112, 32, 49, 48, 48, 32, 53, 32, 49] : List UInt8) then (if bt159.2 = 142 then ((names_Right.f k bt144.1).bind fun t165 => (if t165 = true then ((names_Same.f bt144.1 bt144.1).bind fun t166 => (some t166)) else (some false))) else (some false)) else (some false)) else (none)) else (some false)) else (none)) else (some false)) else (some false)) else (some false)) else (some false)))))) = some r := H
 have A1 := Aside0.mk A10
 clear A10
 replace H := Option.bind_eq_some_iff.mp H
 obtain ⟨⟨t144, t147⟩, A20, H⟩ := H
 replace H : ((names_Find.f t144 (⟨#[97]⟩ : ByteArray)).bind fun bt148 => ((names_Lines.f k bt148.1 bt148.2.1 bt148.2.2.1 bt148.2.2.2.1).bind fun t156 => ((names_Drop.f t144 (⟨#[98]⟩ : ByteArray)).bind fun bt159 => (if t141 = 0 then (if t147 = 0 then (if bt148.2.2.2.2 = true then (if (t156.length : Int) = 2 then (if 0 < (t156.length : Int) then (if (rdOf ByteArray.empty t156 0).toList = ([97, 32, 111, 110, 32, 51, 32, 49] : List UInt8) then (if 1 < (t156.length : Int) then (if (rdOf ByteArray.empty t156 1).toList = ([108, 97, 103, 32, 108, 97, 116, 101, 110, 99, 121, 32, 117, 112, 32, 49, 48, 48, 32, 53, 32, 49] : List UInt8) then (if bt159.2 = 142 then ((names_Right.f k t144).bind fun t165 => (if t165 = true then ((names_Same.f t144 t144).bind fun t166 => (some t166)) else (some false))) else (some false)) else (some false)) else (none)) else (some false)) else (none)) else (some false)) else (some false)) else (some false)) else (some false))))) = some r := H
 have A2 := Aside0.mk A20
 clear A20
 replace H := Option.bind_eq_some_iff.mp H
 obtain ⟨⟨t148, t149, t150, t151, t154⟩, A30, H⟩ := H
 replace H : ((names_Lines.f k t148 t149 t150 t151).bind fun t156 => ((names_Drop.f t144 (⟨#[98]⟩ : ByteArray)).bind fun bt159 => (if t141 = 0 then (if t147 = 0 then (if t154 = true then (if (t156.length : Int) = 2 then (if 0 < (t156.length : Int) then (if (rdOf ByteArray.empty t156 0).toList = ([97, 32, 111, 110, 32, 51, 32, 49] : List UInt8) then (if 1 < (t156.length : Int) then (if (rdOf ByteArray.empty t156 1).toList = ([108, 97, 103, 32, 108, 97, 116, 101, 110, 99, 121, 32, 117, 112, 32, 49, 48, 48, 32, 53, 32, 49] : List UInt8) then (if bt159.2 = 142 then ((names_Right.f k t144).bind fun t165 => (if t165 = true then ((names_Same.f t144 t144).bind fun t166 => (some t166)) else (some false))) else (some false)) else (some false)) else (none)) else (some false)) else (none)) else (some false)) else (some false)) else (some false)) else (some false)))) = some r := H
 have A3 := Aside0.mk A30
 clear A30
 replace H := Option.bind_eq_some_iff.mp H
 obtain ⟨t156, A40, H⟩ := H
 replace H : ((names_Drop.f t144 (⟨#[98]⟩ : ByteArray)).bind fun bt159 => (if t141 = 0 then (if t147 = 0 then (if t154 = true then (if (t156.length : Int) = 2 then (if 0 < (t156.length : Int) then (if (rdOf ByteArray.empty t156 0).toList = ([97, 32, 111, 110, 32, 51, 32, 49] : List UInt8) then (if 1 < (t156.length : Int) then (if (rdOf ByteArray.empty t156 1).toList = ([108, 97, 103, 32, 108, 97, 116, 101, 110, 99, 121, 32, 117, 112, 32, 49, 48, 48, 32, 53, 32, 49] : List UInt8) then (if bt159.2 = 142 then ((names_Right.f k t144).bind fun t165 => (if t165 = true then ((names_Same.f t144 t144).bind fun t166 => (some t166)) else (some false))) else (some false)) else (some false)) else (none)) else (some false)) else (none)) else (some false)) else (some false)) else (some false)) else (some false))) = some r := H
 have A4 := Aside0.mk A40
 clear A40
 replace H := Option.bind_eq_some_iff.mp H
 obtain ⟨⟨t159, t160⟩, A50, H⟩ := H
 replace H : (if t141 = 0 then (if t147 = 0 then (if t154 = true then (if (t156.length : Int) = 2 then (if 0 < (t156.length : Int) then (if (rdOf ByteArray.empty t156 0).toList = ([97, 32, 111, 110, 32, 51, 32, 49] : List UInt8) then (if 1 < (t156.length : Int) then (if (rdOf ByteArray.empty t156 1).toList = ([108, 97, 103, 32, 108, 97, 116, 101, 110, 99, 121, 32, 117, 112, 32, 49, 48, 48, 32, 53, 32, 49] : List UInt8) then (if t160 = 142 then ((names_Right.f k t144).bind fun t165 => (if t165 = true then ((names_Same.f t144 t144).bind fun t166 => (some t166)) else (some false))) else (some false)) else (some false)) else (none)) else (some false)) else (none)) else (some false)) else (some false)) else (some false)) else (some false)) = some r := H
 have A5 := Aside0.mk A50
 clear A50
 by_cases c6 : t141 = 0
 ·rw [if_pos c6] at H
  have c6b0 : (t141 == 0) = true := beq_iff_eq.mpr c6
  have c6b1 : (t141 != 0) = false := bne_eq_false_iff_eq.mpr c6
  clear c6
  by_cases c7 : t147 = 0
  ·rw [if_pos c7] at H
   have c7b0 : (t147 == 0) = true := beq_iff_eq.mpr c7
   have c7b1 : (t147 != 0) = false := bne_eq_false_iff_eq.mpr c7
   clear c7
   by_cases c8 : t154 = true
   ·subst c8
    have H1 : (if (t156.length : Int) = 2 then (if 0 < (t156.length : Int) then (if (rdOf ByteArray.empty t156 0).toList = ([97, 32, 111, 110, 32, 51, 32, 49] : List UInt8) then (if 1 < (t156.length : Int) then (if (rdOf ByteArray.empty t156 1).toList = ([108, 97, 103, 32, 108, 97, 116, 101, 110, 99, 121, 32, 117, 112, 32, 49, 48, 48, 32, 53, 32, 49] : List UInt8) then (if t160 = 142 then ((names_Right.f k t144).bind fun t165 => (if t165 = true then ((names_Same.f t144 t144).bind fun t166 => (some t166)) else (some false))) else (some false)) else (some false)) else (none)) else (some false)) else (none)) else (some false)) = some r := by rw [if_pos rfl] at H; exact H
    clear H
    have H := H1
    clear H1
    by_cases c9 : (t156.length : Int) = 2
    ·rw [if_pos c9] at H
     have c9b0 : ((t156.length : Int) == 2) = true := beq_iff_eq.mpr c9
     have c9b1 : ((t156.length : Int) != 2) = false := bne_eq_false_iff_eq.mpr c9
     clear c9
     by_cases c10 : 0 < (t156.length : Int)
     ·rw [if_pos c10] at H
      have c10b0 : decide (0 < (t156.length : Int)) = true := decide_eq_true c10
      have c10b1 : decide (0 < t156.length) = true := decide_eq_true (by omega)
      clear c10
      by_cases c11 : (rdOf ByteArray.empty t156 0).toList = ([97, 32, 111, 110, 32, 51, 32, 49] : List UInt8)
      ·rw [if_pos c11] at H
       have c11b0 : ((rdOf ByteArray.empty t156 0).toList == ([97, 32, 111, 110, 32, 51, 32, 49] : List UInt8)) = true := beq_iff_eq.mpr c11
       have c11b1 : ((rdOf ByteArray.empty t156 0).toList != ([97, 32, 111, 110, 32, 51, 32, 49] : List UInt8)) = false := bne_eq_false_iff_eq.mpr c11
       clear c11
       by_cases c12 : 1 < (t156.length : Int)
       ·rw [if_pos c12] at H
        have c12b0 : decide (1 < (t156.length : Int)) = true := decide_eq_true c12
        have c12b1 : decide (1 < t156.length) = true := decide_eq_true (by omega)
        clear c12
        by_cases c13 : (rdOf ByteArray.empty t156 1).toList = ([108, 97, 103, 32, 108, 97, 116, 101, 110, 99, 121, 32, 117, 112, 32, 49, 48, 48, 32, 53, 32, 49] : List UInt8)
        ·rw [if_pos c13] at H
         have c13b0 : ((rdOf ByteArray.empty t156 1).toList == ([108, 97, 103, 32, 108, 97, 116, 101, 110, 99, 121, 32, 117, 112, 32, 49, 48, 48, 32, 53, 32, 49] : List UInt8)) = true := beq_iff_eq.mpr c13
         have c13b1 : ((rdOf ByteArray.empty t156 1).toList != ([108, 97, 103, 32, 108, 97, 116, 101, 110, 99, 121, 32, 117, 112, 32, 49, 48, 48, 32, 53, 32, 49] : List UInt8)) = false := bne_eq_false_iff_eq.mpr c13
         clear c13
         by_cases c14 : t160 = 142
         ·rw [if_pos c14] at H
          have c14b0 : (t160 == 142) = true := beq_iff_eq.mpr c14
          have c14b1 : (t160 != 142) = false := bne_eq_false_iff_eq.mpr c14
          clear c14
          replace H := Option.bind_eq_some_iff.mp H
          obtain ⟨t165, A150, H⟩ := H
          replace H : (if t165 = true then ((names_Same.f t144 t144).bind fun t166 => (some t166)) else (some false)) = some r := H
          have A15 := Aside0.mk A150
          clear A150
          by_cases c16 : t165 = true
          ·subst c16
           have H1 : ((names_Same.f t144 t144).bind fun t166 => (some t166)) = some r := by rw [if_pos rfl] at H; exact H
           clear H
           have H := H1
           clear H1
           replace H := Option.bind_eq_some_iff.mp H
           obtain ⟨t166, A170, H⟩ := H
           replace H : (some t166) = some r := H
           have A17 := Aside0.mk A170
           clear A170
           obtain rfl := Option.some.inj H
           go_enter Tryz.func8, Tryz.ntmps8
           go_wp2_with (first | ((with_reducible refine gate_callee (f := 15) rfl ?_); refine goesL_ (some 11) rfl rfl Tryz.func15 qr rfl #[.slice none 0 0, .string (⟨#[97]⟩ : ByteArray), .int .i64 3] rfl qG ?_; (refine (names_Add.calls _ _ ([] : List (S39)) (⟨#[97]⟩ : ByteArray) 3 t140 t141 _ ?side1 ?side2 A1.out).mono ?_); (case side1 => exact Kd.C_nil _ _); (case side2 => exact Nat.le_refl _); rintro e w18 ⟨v142, rfl, ho0, hb⟩; refine ⟨_, rfl, ?_⟩; have HO143 := Aside0.mk (Kd.S_lower ho0 (below_size (qB HB.out))); replace HB := Aside0.mk (below_step (qB HB.out) hb); (try clear hb); (try clear hb2); (try clear hk); (try clear hi); (try clear ho0); obtain ⟨Ao19, co19, eo19⟩ := Kd.S_slice HO143.out; subst eo19) | ((with_reducible refine gate_callee (f := 16) rfl ?_); refine goesL_ (some 17) rfl rfl Tryz.func16 qr rfl #[.slice Ao19 t140.length co19, .string (⟨#[97]⟩ : ByteArray), .agg #[.string (⟨#[108, 97, 103]⟩ : ByteArray), .int .i64 1, .bool true, .int .i64 100, .int .i64 5, .int .i64 1]] rfl qG ?_; (with_reducible refine (names_AddToxic.calls _ _ t140 (⟨#[97]⟩ : ByteArray) (⟨#[108, 97, 103]⟩ : ByteArray) 1 true 100 5 1 t144 t147 _ ?side1 ?side2 A2.out).mono ?_); (case side1 => repeat (first | exact (Kd.S_reads' HO143.out).2.2 | (with_reducible refine Kd.C_alloc ?_ _) | (with_reducible refine Kd.C_drewN ?_ _) | (with_reducible refine Kd.C_drew ?_))); (case side2 => exact (Kd.S_reads' HO143.out).2.1); rintro e w20 ⟨v145, rfl, ho0, hb⟩; refine ⟨_, rfl, ?_⟩; have n0_ := Aside0.mk (Kd.S_elder' (qS HO143.out) (Kd.S_base ho0) hb); have n1_ := Aside0.mk (Kd.S_lower (Kd.S_new' ho0 (Kd.S_lt (qS HO143.out))) (below_size (qB HB.out))); have n2_ := Aside0.mk (below_step (qB HB.out) hb); clear HO143 HB; have HO143 := n0_; have HO146 := n1_; have HB := n2_; clear n0_ n1_ n2_; (try clear hb); (try clear hb2); (try clear hk); (try clear hi); (try clear ho0); obtain ⟨Ao21, co21, eo21⟩ := Kd.S_slice HO146.out; subst eo21) | ((with_reducible refine gate_callee (f := 17) rfl ?_); refine goesL_ (some 22) rfl rfl Tryz.func17 qr rfl #[.slice Ao21 t144.length co21, .string (⟨#[97]⟩ : ByteArray)] rfl qG ?_; (with_reducible refine (names_Find.calls _ _ t144 (⟨#[97]⟩ : ByteArray) t148 t149 t150 t151 true _ ?side1 ?side2 A3.out).mono ?_); (case side1 => repeat (first | exact (Kd.S_reads' HO146.out).2.2 | (with_reducible refine Kd.C_alloc ?_ _) | (with_reducible refine Kd.C_drewN ?_ _) | (with_reducible refine Kd.C_drew ?_))); (case side2 => exact (Kd.S_reads' HO146.out).2.1); rintro e w22 ⟨v152, rfl, ho0, hb⟩; refine ⟨_, rfl, ?_⟩; replace HO143 := Aside0.mk (Kd.S_elder' (qS HO143.out) (Kd.R_base ho0) hb); replace HO146 := Aside0.mk (Kd.S_elder' (qS HO146.out) (Kd.R_base ho0) hb); have HO153 := Aside0.mk (Kd.R_lower ho0 (below_size (qB HB.out))); replace HB := Aside0.mk (below_step (qB HB.out) hb); (try clear hb); (try clear hb2); (try clear hk); (try clear hi); (try clear ho0)) | ((with_reducible refine gate_dst (N := 5) rfl ?_); (try (refine gate_guard (by rfl) ?_; dsimp only)); refine box_event ?hg (N := 5) ?hd (cs := #[.string (⟨#[]⟩ : ByteArray), .bool false, .int .i64 0, .slice none 0 0]) (t := 39) ?hr ?_; (case hd => rfl); (case hg => rfl); (case hr => first | (go_simp; done) | (go_simp; rfl)); intro gb155 hg w23 hbox hb; have n0_ := Aside0.mk (Kd.S_below (Kd.S_elderB (qS HO143.out) gb155 (Nat.le_of_eq hg.symm)) hb); have n1_ := Aside0.mk (Kd.S_below (Kd.S_elderB (qS HO146.out) gb155 (Nat.le_of_eq hg.symm)) hb); have n2_ := Aside0.mk (Kd.R_below (qR HO153.out) hb); have n3_ := Aside0.mk (below_step (qB HB.out) hb); have n4_ := Aside0.mk (hbox); have n5_ := Aside0.mk ((qs hg (below_size (qB HB.out)) : w.heap.size ≤ gb155)); have n6_ := Aside0.mk ((qs hg (below_size (qB HB.out)) : w.heap.size ≤ gb155)); clear HO143 HO146 HO153 HB; have HO143 := n0_; have HO146 := n1_; have HO153 := n2_; have HB := n3_; have BK155 := n4_; have GW155 := n5_; have GE155 := n6_; clear n0_ n1_ n2_ n3_ n4_ n5_ n6_ hb hbox hg; have hcz24 := qC4 BK155.out; obtain ⟨Ao25, co25, eo25⟩ := Kd.R_slice HO153.out; subst eo25) | ((with_reducible refine gate_callee (f := 18) rfl ?_); refine goesL_ (some 26) rfl rfl Tryz.func18 qr rfl #[.agg #[.string t148, .bool t149, .int .i64 t150, .slice Ao25 t151.length co25]] rfl qG ?_; (with_reducible refine (names_Lines.calls k t148 t149 t150 _ _ t151 t156 _ ?side1 ?side2 A4.out).mono ?_); (case side1 => refine (Kd.R_reads' (e := 24) (base := w.heap.size) (ok := fun k_ => True) (n := t151.length) (c := co25) ?_).2.2; exact (qR ((Kd.R_mono (Kd.R_far (p := ⟨gb155, 3, none⟩) (Kd.R_far (p := ⟨gb155, 2, none⟩) (Kd.R_far (p := ⟨gb155, 1, none⟩) (Kd.R_far (p := ⟨gb155, 0, none⟩) (Kd.R_types HO153.out BK155.out (by decide)) (fun _ hk => hk.2) (.string t148)) (fun _ hk => hk.2) (.bool t149)) (fun _ hk => hk.2) (.int .i64 t150)) (fun _ hk => hk.2) (.slice Ao25 t151.length co25)) (fun _ h_ => h_.1))))); (case side2 => exact (Kd.R_reads' HO153.out).2.1); rintro e w26 ⟨v157, rfl, ho0, hb⟩; refine ⟨_, rfl, ?_⟩; replace HO143 := Aside0.mk (Kd.S_below (qS ((Kd.S_mono (Kd.S_far (p := ⟨gb155, 3, none⟩) (Kd.S_far (p := ⟨gb155, 2, none⟩) (Kd.S_far (p := ⟨gb155, 1, none⟩) (Kd.S_far (p := ⟨gb155, 0, none⟩) (Kd.S_mono HO143.out (fun k_ hk => (⟨hk, hk.2⟩ : _ ∧ k_ ≠ gb155))) (fun _ hk => hk.2) (.string t148)) (fun _ hk => hk.2) (.bool t149)) (fun _ hk => hk.2) (.int .i64 t150)) (fun _ hk => hk.2) (.slice Ao25 t151.length co25)) (fun _ h_ => h_.1)))) hb); replace HO146 := Aside0.mk (Kd.S_below (qS ((Kd.S_mono (Kd.S_far (p := ⟨gb155, 3, none⟩) (Kd.S_far (p := ⟨gb155, 2, none⟩) (Kd.S_far (p := ⟨gb155, 1, none⟩) (Kd.S_far (p := ⟨gb155, 0, none⟩) (Kd.S_mono HO146.out (fun k_ hk => (⟨hk, hk.2⟩ : _ ∧ k_ ≠ gb155))) (fun _ hk => hk.2) (.string t148)) (fun _ hk => hk.2) (.bool t149)) (fun _ hk => hk.2) (.int .i64 t150)) (fun _ hk => hk.2) (.slice Ao25 t151.length co25)) (fun _ h_ => h_.1)))) hb); replace HO153 := Aside0.mk (Kd.R_below (qR ((Kd.R_mono (Kd.R_far (p := ⟨gb155, 3, none⟩) (Kd.R_far (p := ⟨gb155, 2, none⟩) (Kd.R_far (p := ⟨gb155, 1, none⟩) (Kd.R_far (p := ⟨gb155, 0, none⟩) (Kd.R_types HO153.out BK155.out (by decide)) (fun _ hk => hk.2) (.string t148)) (fun _ hk => hk.2) (.bool t149)) (fun _ hk => hk.2) (.int .i64 t150)) (fun _ hk => hk.2) (.slice Ao25 t151.length co25)) (fun _ h_ => h_.1)))) hb); have HO158 := Aside0.mk (Kd.R_lower ho0 (below_size (qB1 HB.out GE155.out))); replace BK155 := Aside0.mk (blk_below (g := gb155) (o := .cells #[.string t148, .bool t149, .int .i64 t150, .slice Ao25 t151.length co25] 39 (0, 0)) (by (with_reducible repeat (first | refine blk_drewN ?_ _ | refine blk_drew ?_ | refine blk_alloc ?_ _)); refine blk_put (cs := #[.string t148, .bool t149, .int .i64 t150, .slice none 0 0]) ?_ 3 _ rfl; (with_reducible repeat (first | refine blk_drewN ?_ _ | refine blk_drew ?_ | refine blk_alloc ?_ _)); refine blk_put (cs := #[.string t148, .bool t149, .int .i64 0, .slice none 0 0]) ?_ 2 _ rfl; (with_reducible repeat (first | refine blk_drewN ?_ _ | refine blk_drew ?_ | refine blk_alloc ?_ _)); refine blk_put (cs := #[.string t148, .bool false, .int .i64 0, .slice none 0 0]) ?_ 1 _ rfl; (with_reducible repeat (first | refine blk_drewN ?_ _ | refine blk_drew ?_ | refine blk_alloc ?_ _)); refine blk_put (cs := #[.string (⟨#[]⟩ : ByteArray), .bool false, .int .i64 0, .slice none 0 0]) ?_ 0 _ rfl; (with_reducible repeat (first | refine blk_drewN ?_ _ | refine blk_drew ?_ | refine blk_alloc ?_ _)); exact BK155.out) hb); replace HB := Aside0.mk (below_step (qB1 HB.out GE155.out) hb); (try clear hb); (try clear hb2); (try clear hk); (try clear hi); (try clear ho0)) | ((with_reducible refine gate_callee (f := 19) rfl ?_); refine goesL_ (some 29) rfl rfl Tryz.func19 qr rfl #[.slice Ao21 t144.length co21, .string (⟨#[98]⟩ : ByteArray)] rfl qG ?_; (with_reducible refine (names_Drop.calls _ _ t144 (⟨#[98]⟩ : ByteArray) t159 t160 _ ?side1 ?side2 A5.out).mono ?_); (case side1 => repeat (first | exact (Kd.S_reads' HO146.out).2.2 | (with_reducible refine Kd.C_alloc ?_ _) | (with_reducible refine Kd.C_drewN ?_ _) | (with_reducible refine Kd.C_drew ?_))); (case side2 => exact (Kd.S_reads' HO146.out).2.1); rintro e w27 ⟨v161, rfl, ho0, hb⟩; refine ⟨_, rfl, ?_⟩; have n0_ := Aside0.mk (Kd.S_elder' (qS HO143.out) (Kd.S_base ho0) hb); have n1_ := Aside0.mk (Kd.S_elder' (qS HO146.out) (Kd.S_base ho0) hb); have n2_ := Aside0.mk (Kd.R_below (qR HO153.out) hb); have n3_ := Aside0.mk (Kd.R_below (qR HO158.out) hb); have n4_ := Aside0.mk (Kd.S_lower (Kd.S_newB (Kd.S_new' (Kd.S_new' (Kd.S_new' ho0 (Kd.S_lt (qS HO143.out))) (Kd.S_lt (qS HO146.out))) (Kd.R_lt (qR HO153.out))) (g := gb155) (o := .cells #[.string t148, .bool t149, .int .i64 t150, .slice Ao25 t151.length co25] 39 (0, 0)) (qK BK155.out)) (below_size (qB1 HB.out GE155.out))); have n5_ := Aside0.mk (blk_below (qK BK155.out) hb); have n6_ := Aside0.mk (below_step (qB1 HB.out GE155.out) hb); clear HO143 HO146 HO153 HO158 BK155 HB; have HO143 := n0_; have HO146 := n1_; have HO153 := n2_; have HO158 := n3_; have HO162 := n4_; have BK155 := n5_; have HB := n6_; clear n0_ n1_ n2_ n3_ n4_ n5_ n6_; (try clear hb); (try clear hb2); (try clear hk); (try clear hi); (try clear ho0); obtain ⟨Ao28, co28, eo28⟩ := Kd.R_slice HO158.out; subst eo28; have p163 : 0 ≤ (0 : Int) := (by omega); have q163 : 0 < (t156.length : Int) := of_decide_eq_true qA; obtain ⟨ad163, e163, hx163_0⟩ := Kd.at_string (Kd.R_reads' HO158.out).2.2 0 p163 q163; cases e163; have qi163 : (0 < t156.length) = True := eq_true (by omega); (try rw [show ((0 : Int)).toNat = 0 from rfl] at hx163_0); (try rw [Addr.add_zero'] at hx163_0); replace p163 := eq_true p163; replace q163 := eq_true q163; have p164 : 0 ≤ (1 : Int) := (by omega); have q164 : 1 < (t156.length : Int) := of_decide_eq_true qA; obtain ⟨ad164, e164, hx164_0⟩ := Kd.at_string (Kd.R_reads' HO158.out).2.2 1 p164 q164; obtain rfl : ad163 = ad164 := (by injection e164); (try simp only [show (1 : Int).toNat = 1 from rfl, Nat.reduceMul, Nat.reduceEqDiff, Go.Addr.add, ↓reduceIte] at hx164_0); have qi164 : (1 < t156.length) = True := eq_true (by omega); (try rw [show ((1 : Int)).toNat = 1 from rfl] at hx164_0); replace p164 := eq_true p164; replace q164 := eq_true q164) | (go_at_call 13; (with_reducible refine (names_Right.calls k _ _ t144 true _ ?side1 ?side2 A15.out).mono ?_); (case side1 => repeat (first | exact (Kd.S_reads' HO146.out).2.2 | (with_reducible refine Kd.C_alloc ?_ _) | (with_reducible refine Kd.C_drewN ?_ _) | (with_reducible refine Kd.C_drew ?_))); (case side2 => exact (Kd.S_reads' HO146.out).2.1); rintro e w29 ⟨rfl, hb⟩; replace HO143 := Aside0.mk (Kd.S_below (qS HO143.out) hb); replace HO146 := Aside0.mk (Kd.S_below (qS HO146.out) hb); replace HO153 := Aside0.mk (Kd.R_below (qR HO153.out) hb); replace HO158 := Aside0.mk (Kd.R_below (qR HO158.out) hb); replace HO162 := Aside0.mk (Kd.S_below (qS HO162.out) hb); replace BK155 := Aside0.mk (blk_below (qK BK155.out) hb); replace HB := Aside0.mk (below_step (qB1 HB.out GE155.out) hb); (try clear hb); (try clear hb2); (try clear hk); (try clear hi)) | (go_at_call 20; (with_reducible refine (names_Same.calls _ _ t144 _ _ t144 t166 _ ?side1 ?side2 ?side3 ?side4 A17.out).mono ?_); (case side1 => repeat (first | exact (Kd.S_reads' HO146.out).2.2 | (with_reducible refine Kd.C_alloc ?_ _) | (with_reducible refine Kd.C_drewN ?_ _) | (with_reducible refine Kd.C_drew ?_))); (case side2 => exact (Kd.S_reads' HO146.out).2.1); (case side3 => repeat (first | exact (Kd.S_reads' HO146.out).2.2 | (with_reducible refine Kd.C_alloc ?_ _) | (with_reducible refine Kd.C_drewN ?_ _) | (with_reducible refine Kd.C_drew ?_))); (case side4 => exact (Kd.S_reads' HO146.out).2.1); rintro e w30 ⟨rfl, hb⟩; replace HO143 := Aside0.mk (Kd.S_below (qS HO143.out) hb); replace HO146 := Aside0.mk (Kd.S_below (qS HO146.out) hb); replace HO153 := Aside0.mk (Kd.R_below (qR HO153.out) hb); replace HO158 := Aside0.mk (Kd.R_below (qR HO158.out) hb); replace HO162 := Aside0.mk (Kd.S_below (qS HO162.out) hb); replace BK155 := Aside0.mk (blk_below (qK BK155.out) hb); replace HB := Aside0.mk (below_step (qB1 HB.out GE155.out) hb); (try clear hb); (try clear hb2); (try clear hk); (try clear hi)))
           go_ret
           exact ⟨qE, by repeat (first | (with_reducible first | exact HB.out | apply below_alloc | apply pw_below_drewN | apply below_drew1 | refine below_set ?_ GE155.out) | exact HB.out)⟩
          ·replace c16 := Bool.eq_false_iff.mpr c16
           subst c16
           have H1 : (some false) = some r := by rw [if_neg (show ¬ (false = true) by decide)] at H; exact H
           clear H
           have H := H1
           clear H1
           exact absurd ((Option.some.inj H).trans hr) Bool.false_ne_true
         ·rw [if_neg c14] at H
          have c14b0 : (t160 == 142) = false := beq_eq_false_iff_ne.mpr c14
          have c14b1 : (t160 != 142) = true := bne_iff_ne.mpr c14
          exact absurd ((Option.some.inj H).trans hr) Bool.false_ne_true
        ·rw [if_neg c13] at H
         have c13b0 : ((rdOf ByteArray.empty t156 1).toList == ([108, 97, 103, 32, 108, 97, 116, 101, 110, 99, 121, 32, 117, 112, 32, 49, 48, 48, 32, 53, 32, 49] : List UInt8)) = false := beq_eq_false_iff_ne.mpr c13
         have c13b1 : ((rdOf ByteArray.empty t156 1).toList != ([108, 97, 103, 32, 108, 97, 116, 101, 110, 99, 121, 32, 117, 112, 32, 49, 48, 48, 32, 53, 32, 49] : List UInt8)) = true := bne_iff_ne.mpr c13
         exact absurd ((Option.some.inj H).trans hr) Bool.false_ne_true
       ·rw [if_neg c12] at H
        exact absurd H (by simp)
      ·rw [if_neg c11] at H
       have c11b0 : ((rdOf ByteArray.empty t156 0).toList == ([97, 32, 111, 110, 32, 51, 32, 49] : List UInt8)) = false := beq_eq_false_iff_ne.mpr c11
       have c11b1 : ((rdOf ByteArray.empty t156 0).toList != ([97, 32, 111, 110, 32, 51, 32, 49] : List UInt8)) = true := bne_iff_ne.mpr c11
       exact absurd ((Option.some.inj H).trans hr) Bool.false_ne_true
     ·rw [if_neg c10] at H
      exact absurd H (by simp)
    ·rw [if_neg c9] at H
     have c9b0 : ((t156.length : Int) == 2) = false := beq_eq_false_iff_ne.mpr c9
     have c9b1 : ((t156.length : Int) != 2) = true := bne_iff_ne.mpr c9
     exact absurd ((Option.some.inj H).trans hr) Bool.false_ne_true
   ·replace c8 := Bool.eq_false_iff.mpr c8
    subst c8
    have H1 : (some false) = some r := by rw [if_neg (show ¬ (false = true) by decide)] at H; exact H
    clear H
    have H := H1
    clear H1
    exact absurd ((Option.some.inj H).trans hr) Bool.false_ne_true
  ·rw [if_neg c7] at H
   have c7b0 : (t147 == 0) = false := beq_eq_false_iff_ne.mpr c7
   have c7b1 : (t147 != 0) = true := bne_iff_ne.mpr c7
   exact absurd ((Option.some.inj H).trans hr) Bool.false_ne_true
 ·rw [if_neg c6] at H
  have c6b0 : (t141 == 0) = false := beq_eq_false_iff_ne.mpr c6
  have c6b1 : (t141 != 0) = true := bne_iff_ne.mpr c6
  exact absurd ((Option.some.inj H).trans hr) Bool.false_ne_true
set_option maxRecDepth 100000 in
theorem chicanelaw14_alive.at100 : chicanelaw14_alive.f 100 = some true := by kernel_rfl
theorem chicanelaw14_alive.only (k : Nat) (r : Bool) (h : chicanelaw14_alive.f k = some r) : r = true := by
 have h1 : chicanelaw14_alive.f (k + 100) = some r := by
  generalize 100 = m
  induction m with
  | zero => exact h
  | succ m ih => exact chicanelaw14_alive.mono _ _ ih
 have h2 : chicanelaw14_alive.f (100 + k) = some true := by
  clear h h1
  induction k with
  | zero => exact chicanelaw14_alive.at100
  | succ k ih => exact chicanelaw14_alive.mono _ _ ih
 rw [Nat.add_comm, h2] at h1
 exact (Option.some.inj h1).symm
theorem chicanelaw14_alive.calls (k : Nat) (r : Bool) (w : World) (h : chicanelaw14_alive.f k = some r) :
  Calls Tryz.prog 8 #[] w fun e w' => e = .returned (.bool r) ∧ Below w.heap.size w w' :=
 chicanelaw14_alive.calls_t k r w (chicanelaw14_alive.only k r h) h
end Go.Proofs.YtlglbpjccpdloaaGreat.PNamA
set_option linter.unusedVariables false
set_option linter.unusedSimpArgs false
namespace Go.Proofs.YtlglbpjccpdloaaGreat.Ext
open Go.RowKit Go.Proofs.YtlglbpjccpdloaaGreat.PNamA Go.Proofs.YtlglbpjccpdloaaGreat.Tox Go.Proofs.YtlglbpjccpdloaaGreat.ToxZ Go.Proofs.YtlglbpjccpdloaaGreatW.PrintWords Go.Proofs.YtlglbpjccpdloaaGreatW.PrintLast
def szM (n : Nat) : Prop := n ≤ 9223372036854775807
theorem rfind_l0 (l : List S24) (hm : l.length ≤ 1000000) (s : ByteArray) : ∀ (k i : Nat), l.length - i < k → i ≤ l.length →
    chicaneref14_find.l0 k l s (i : Int) = some (Lib.idxFromS ((namesT l).drop i) s i) := by
  intro k
  induction k with
  | zero => intro i h; omega
  | succ k ih =>
    intro i h hi
    unfold chicaneref14_find.l0
    by_cases hl : i < l.length
    · have hd : (namesT l).drop i = l[i].f0 :: (namesT l).drop (i + 1) := by
        rw [namesT, List.drop_eq_getElem_cons (by simpa using hl)]; simp
      rw [if_pos (by omega), if_pos (by omega), rdT_at l i hl, hd, Lib.idxFromS]
      by_cases he : l[i].f0 = s
      · rw [if_pos ((nm_toList_eq_iff _ _).2 he), if_pos he]
      · rw [if_neg (fun h2 => he ((nm_toList_eq_iff _ _).1 h2)), if_neg he, show wrap64 ((i : Int) + 1) = ((i + 1 : Nat) : Int) by rw [w64_in' _ (by omega) (by omega)]; rfl]
        exact ih (i + 1) (by omega) (by omega)
    · rw [if_neg (by omega), List.drop_eq_nil_of_le (by simp [namesT]; omega)]
      rfl
theorem rfind_is (l : List S24) (hm : l.length ≤ 1000000) (s : ByteArray) (k : Nat) (hk : l.length < k) : chicaneref14_find.f k l s = some (place (namesT l) s) := by
  have := rfind_l0 l hm s k 0 (by omega) (by omega)
  rw [List.drop_zero] at this
  exact this
theorem dup_step (ns : List ByteArray) (i : Nat) (h : i < ns.length) : place ns ns[i] = (i : Int) ↔ ¬ 0 ≤ place (ns.take i) ns[i] := by
  constructor
  · intro hp hge
    have hmem : ns[i] ∈ ns.take i := by
      apply Classical.byContradiction
      intro hn
      have := place_neg.2 hn
      omega
    obtain ⟨j, hj⟩ := List.mem_iff_getElem?.1 hmem
    rw [List.getElem?_take] at hj
    split at hj
    · rename_i hji
      rcases place_spec ns ns[i] with ⟨h1, _⟩ | ⟨k, h1, h2, h3⟩
      · omega
      · exact h3 j (by omega) hj
    · cases hj
  · intro hn
    have hmem : ns[i] ∉ ns.take i := place_neg.1 (by omega)
    rcases place_spec ns ns[i] with ⟨_, h2⟩ | ⟨k, h1, h2, h3⟩
    · exact absurd (List.getElem_mem h) h2
    · have a : ¬ i < k := fun hik => h3 i hik (List.getElem?_eq_getElem h)
      have b : ¬ k < i := fun hki => hmem (List.mem_iff_getElem?.2 ⟨k, by rw [List.getElem?_take, if_pos hki]; exact h2⟩)
      rw [h1]
      omega
theorem rchk_l1 (l : List S24) (hm : l.length ≤ 1000) (a : ByteArray) (b : Bool) (c : Int) : ∀ (k i : Nat), (l.length - i) + l.length + 1 < k → i ≤ l.length →
    chicaneref14_Check.l1 k (i : Int) a b c l = some (if dupR (namesT l) ((namesT l).drop i) i then 141 else 0) := by
  intro k
  induction k with
  | zero => intro i h; omega
  | succ k ih =>
    intro i h hi
    unfold chicaneref14_Check.l1
    by_cases hl : i < l.length
    · have hd : (namesT l).drop i = l[i].f0 :: (namesT l).drop (i + 1) := by
        rw [namesT, List.drop_eq_getElem_cons (by simpa using hl)]; simp
      have hln : i < (namesT l).length := by simpa [namesT] using hl
      have hg : (namesT l)[i] = l[i].f0 := by simp [namesT]
      have ht : namesT (l.take i) = (namesT l).take i := by simp [namesT, List.map_take]
      have hds := dup_step (namesT l) i hln
      rw [hg] at hds
      rw [if_pos (by omega), if_pos (by omega), if_pos (by omega), rdT_at l i hl, hd, dupR, Int.toNat_natCast, rfind_is _ (by rw [List.length_take]; omega) _ k (by rw [List.length_take]; omega), Option.bind_some, ht]
      by_cases hp : place (namesT l) l[i].f0 = (i : Int)
      · rw [if_neg (show ¬ place _ _ ≥ 0 from hds.1 hp), if_pos hp, show wrap64 ((i : Int) + 1) = ((i + 1 : Nat) : Int) by rw [w64_in' _ (by omega) (by omega)]; rfl]
        exact ih (i + 1) (by omega) (by omega)
      · have h0 : 0 ≤ place ((namesT l).take i) l[i].f0 := Classical.byContradiction fun hn => hp (hds.2 hn)
        rw [if_pos h0, if_neg hp]
        rfl
    · rw [if_neg (by omega), List.drop_eq_nil_of_le (by simp [namesT]; omega)]
      rfl
theorem rchk_l0 (l : List S24) (hm : l.length ≤ 1000) (hz : ∀ t ∈ l, szM t.f0.size) (a : ByteArray) (b : Bool) (c : Int) : ∀ (k i : Nat), (l.length - i) + 2 * l.length + 2 < k → i ≤ l.length →
    chicaneref14_Check.l0 k (i : Int) a b c l = some (if firstBad (l.drop i) = 0 then (if dupR (namesT l) (namesT l) 0 then 141 else 0) else firstBad (l.drop i)) := by
  intro k
  induction k with
  | zero => intro i h; omega
  | succ k ih =>
    intro i h hi
    unfold chicaneref14_Check.l0
    by_cases hl : i < l.length
    · have hzi : l[i].f0.size ≤ 9223372036854775807 := hz _ (List.getElem_mem hl)
      rw [if_pos (by omega), if_pos (by omega), rdT_at l i hl, List.drop_eq_getElem_cons hl, firstBad]
      simp only [chicaneref09_Check.f, if_pos hzi, Option.bind_some]
      by_cases hp : ckT l[i] = 0
      · rw [if_pos (show checkOf _ _ _ _ _ _ = 0 from hp), if_pos hp, show wrap64 ((i : Int) + 1) = ((i + 1 : Nat) : Int) by rw [w64_in' _ (by omega) (by omega)]; rfl]
        exact ih (i + 1) (by omega) (by omega)
      · rw [if_neg (show ¬ checkOf _ _ _ _ _ _ = 0 from hp), if_neg hp, if_neg hp]
        rfl
    · have hi2 : i = l.length := by omega
      rw [if_neg (by omega), List.drop_eq_nil_of_le (by omega)]
      have := rchk_l1 l hm a b c k 0 (by omega) (by omega)
      rw [List.drop_zero] at this
      rw [if_pos (show firstBad [] = 0 from rfl)]
      exact this
def szP (x : S39) : Prop := szM x.f0.size ∧ ∀ t ∈ x.f3, szM t.f0.size
theorem rchk_is (x : S39) (hz : szP x) (k : Nat) (hk : 40 ≤ k) : chicaneref14_Check.f k x.f0 x.f1 x.f2 x.f3 = some (chkP x) := by
  obtain ⟨k, rfl⟩ : ∃ m, k = m + 1 := ⟨k - 1, by omega⟩
  have hz0 : x.f0.size ≤ 9223372036854775807 := hz.1
  unfold chicaneref14_Check.f chkP
  simp only [chicaneref09_Name.f, if_pos hz0, Option.bind_some]
  by_cases hn : nameOk x.f0 = true
  · rw [if_pos hn, if_pos hn]
    have hj : ∀ q : Bool, chicaneref14_Check.j0 (k + 1) q x.f0 x.f1 x.f2 x.f3 = some (if q then 144 else if x.f3.length > 8 then 143 else toxOk x.f3) := by
      intro q
      cases q with
      | true => rfl
      | false =>
        show (if (false : Bool) = true then some 144 else if (x.f3.length : Int) > 8 then some 143 else chicaneref14_Check.l0 k 0 x.f0 x.f1 x.f2 x.f3) = some (if (false : Bool) = true then 144 else if x.f3.length > 8 then 143 else toxOk x.f3)
        rw [if_neg Bool.false_ne_true, if_neg Bool.false_ne_true]
        by_cases h3 : x.f3.length > 8
        · rw [if_pos (by omega), if_pos h3]
        · rw [if_neg (by omega), if_neg h3]
          have := rchk_l0 x.f3 (by omega) hz.2 x.f0 x.f1 x.f2 k 0 (by omega) (by omega)
          rw [List.drop_zero] at this
          exact this
    by_cases h1 : x.f2 < 1
    · rw [if_pos h1, hj, if_neg (show ¬ (1 ≤ x.f2 ∧ x.f2 ≤ 16) by omega)]
      rfl
    · rw [if_neg h1, hj]
      by_cases h2 : x.f2 > 16
      · rw [if_neg (show ¬ (1 ≤ x.f2 ∧ x.f2 ≤ 16) by omega), decide_eq_true h2]
        rfl
      · rw [if_pos (show (1 ≤ x.f2 ∧ x.f2 ≤ 16) by omega), decide_eq_false h2]
        rfl
  · rw [if_neg hn, if_neg hn]
def needP (l : List S39) : Nat := (l.map fun x => x.f3.length + 4).sum
theorem rsame_l1 (x0 x1 : List S39) (x5 : Int) (a0 : ByteArray) (a1 : Bool) (a2 : Int) (A : List S24) (b0 : ByteArray) (b1 : Bool) (b2 : Int) (B : List S24) (hAB : A.length = B.length) (hm : A.length ≤ 9223372036854775807) (k : Nat) :
    ∀ (n i : Nat), A.length - i = n → i ≤ A.length → chicaneref14_Same.l1 (k + n + 1) x0 x1 x5 (i : Int) a0 a1 a2 A b0 b1 b2 B = if eqTL (A.drop i) (B.drop i) then chicaneref14_Same.l0 k x0 x1 (wrap64 (x5 + 1)) else some false := by
  intro n
  induction n with
  | zero =>
    intro i hn hi
    unfold chicaneref14_Same.l1
    rw [if_neg (by omega), List.drop_eq_nil_of_le (by omega), List.drop_eq_nil_of_le (by omega)]
    rfl
  | succ n ih =>
    intro i hn hi
    have hl : i < A.length := by omega
    have hlb : i < B.length := by omega
    unfold chicaneref14_Same.l1
    rw [if_pos (by omega), if_pos (by omega), if_pos (by omega)]
    have ha : rd_T24 A (i : Int) = A[i] := by simp [rd_T24, hl]
    have hb : rd_T24 B (i : Int) = B[i] := by simp [rd_T24, hlb]
    rw [ha, hb, List.drop_eq_getElem_cons hl, List.drop_eq_getElem_cons hlb, eqTL]
    by_cases he : eqT A[i] B[i] = true
    · have he' := (eqT_iff _ _).1 he
      rw [if_neg (by rw [he']; simp), he, Bool.true_and, show wrap64 ((i : Int) + 1) = ((i + 1 : Nat) : Int) by rw [w64_in' _ (by omega) (by omega)]; rfl]
      exact ih (i + 1) (by omega) (by omega)
    · have h2 : eqT A[i] B[i] = false := by simpa using he
      rw [if_pos ?_, h2, Bool.false_and, if_neg (by simp)]
      unfold eqT at h2
      simp only [Bool.and_eq_false_iff, decide_eq_false_iff_not, beq_eq_false_iff_ne] at h2
      simp only [Bool.or_eq_true, Bool.not_eq_true', beq_eq_false_iff_ne]
      rcases h2 with h2 | h2 | h2 | h2 | h2 | h2
      · exact .inl (fun h3 => h2 ((nm_toList_eq_iff _ _).1 h3))
      · exact .inr (.inl h2)
      · exact .inr (.inr (.inl h2))
      · exact .inr (.inr (.inr (.inl h2)))
      · exact .inr (.inr (.inr (.inr (.inl h2))))
      · exact .inr (.inr (.inr (.inr (.inr h2))))
theorem rsame_l0 (a b : List S39) (hab : a.length = b.length) (hm : a.length ≤ 9223372036854775807) (hin : ∀ x ∈ a, x.f3.length ≤ 9223372036854775807) : ∀ (n i k : Nat), a.length - i = n → i ≤ a.length → needP (a.drop i) + 1 ≤ k →
    chicaneref14_Same.l0 k a b (i : Int) = some (eqPL (a.drop i) (b.drop i)) := by
  intro n
  induction n with
  | zero =>
    intro i k hn hi hk
    obtain ⟨k, rfl⟩ : ∃ m, k = m + 1 := ⟨k - 1, by omega⟩
    unfold chicaneref14_Same.l0
    rw [if_neg (by omega), List.drop_eq_nil_of_le (by omega), List.drop_eq_nil_of_le (by omega)]
    rfl
  | succ n ih =>
    intro i k hn hi hk
    have hl : i < a.length := by omega
    have hlb : i < b.length := by omega
    have hneed : needP (a.drop i) = a[i].f3.length + 4 + needP (a.drop (i + 1)) := by
      unfold needP
      rw [List.drop_eq_getElem_cons hl, List.map_cons, List.sum_cons]
    obtain ⟨k, rfl⟩ : ∃ m, k = m + (a[i].f3.length + 4) := ⟨k - (a[i].f3.length + 4), by omega⟩
    rw [show k + (a[i].f3.length + 4) = (k + a[i].f3.length + 3) + 1 by omega]
    unfold chicaneref14_Same.l0
    have ha : rd_T39 a (i : Int) = a[i] := rdP_at a i hl
    have hb : rd_T39 b (i : Int) = b[i] := rdP_at b i hlb
    rw [if_pos (by omega), if_pos (by omega), if_pos (by omega), ha, hb, List.drop_eq_getElem_cons hl, List.drop_eq_getElem_cons hlb, eqPL, eqP]
    have hj1 : ∀ q : Bool, chicaneref14_Same.j1 (k + a[i].f3.length + 3) a b (i : Int) q a[i].f0 a[i].f1 a[i].f2 a[i].f3 b[i].f0 b[i].f1 b[i].f2 b[i].f3 = if q then some false else chicaneref14_Same.l1 (k + a[i].f3.length + 2) a b (i : Int) 0 a[i].f0 a[i].f1 a[i].f2 a[i].f3 b[i].f0 b[i].f1 b[i].f2 b[i].f3 := by
      intro q
      cases q <;> rfl
    by_cases h0 : a[i].f0 = b[i].f0
    · rw [if_pos ((nm_toList_eq_iff _ _).2 h0), decide_eq_true h0, Bool.true_and]
      by_cases h1 : a[i].f1 = b[i].f1
      · rw [if_neg (by rw [h1]; simp)]
        by_cases h2 : a[i].f2 = b[i].f2
        · rw [if_pos h2, hj1]
          by_cases h3 : a[i].f3.length = b[i].f3.length
          · rw [if_neg (by simp [h3]), show k + a[i].f3.length + 2 = (k + 1) + a[i].f3.length + 1 by omega]
            have hl1 := rsame_l1 a b (i : Int) a[i].f0 a[i].f1 a[i].f2 a[i].f3 b[i].f0 b[i].f1 b[i].f2 b[i].f3 h3 (hin _ (List.getElem_mem hl)) (k + 1) a[i].f3.length 0 (by omega) (by omega)
            rw [List.drop_zero, List.drop_zero] at hl1
            rw [show (0 : Int) = ((0 : Nat) : Int) from rfl, hl1, show wrap64 ((i : Int) + 1) = ((i + 1 : Nat) : Int) by rw [w64_in' _ (by omega) (by omega)]; rfl, ih (i + 1) (k + 1) (by omega) (by omega) (by omega)]
            cases eqTL a[i].f3 b[i].f3 <;> simp [h1, h2]
          · rw [if_pos (by simp; omega), eqTL_len h3]
            simp
        · rw [if_neg h2, hj1, if_pos rfl]
          simp [h2]
      · rw [if_pos (by simpa using h1), hj1, if_pos rfl]
        simp [h1]
    · rw [if_neg (fun h3 => h0 ((nm_toList_eq_iff _ _).1 h3)), hj1, if_pos rfl, decide_eq_false h0, Bool.false_and, Bool.false_and]
theorem rsame_is (a b : List S39) (hm : a.length ≤ 9223372036854775807) (hin : ∀ x ∈ a, x.f3.length ≤ 9223372036854775807) (k : Nat) (hk : needP a + 1 ≤ k) : chicaneref14_Same.f k a b = some (eqPL a b) := by
  unfold chicaneref14_Same.f
  by_cases h : a.length = b.length
  · rw [if_pos (by omega)]
    have := rsame_l0 a b h hm hin a.length 0 k (by omega) (by omega) (by rw [List.drop_zero]; exact hk)
    rw [List.drop_zero, List.drop_zero] at this
    exact this
  · rw [if_neg (by omega), eqPL_len h]
theorem rright_l0 (l : List S39) (hm : l.length ≤ 4611686018427387904) (hz : ∀ x ∈ l, szP x) : ∀ (k i : Nat), (l.length - i) + 41 < k → i ≤ l.length →
    chicaneref14_Right.l0 k l (i : Int) = some ((l.drop i).all (fun x => chkP x == 0) && (if i = 0 then sortedB (namesP l) else sortedB ((namesP l).drop (i - 1))) && decide (l.length ≤ 8)) := by
  intro k
  induction k with
  | zero => intro i h; omega
  | succ k ih =>
    intro i h hi
    unfold chicaneref14_Right.l0
    by_cases hl : i < l.length
    · rw [if_pos (by omega), if_pos (by omega), rdP_at l i hl, rchk_is _ (hz _ (List.getElem_mem hl)) k (by omega), Option.bind_some, List.drop_eq_getElem_cons hl]
      have hw : wrap64 ((i : Int) + 1) = ((i + 1 : Nat) : Int) := by rw [w64_in' _ (by omega) (by omega)]; rfl
      have hstep := ih (i + 1) (by omega) (by omega)
      rw [if_neg (by omega), Nat.add_sub_cancel] at hstep
      by_cases hc : chkP l[i] = 0
      · rw [if_pos hc]
        simp only [List.all_cons, hc, beq_self_eq_true, Bool.true_and]
        by_cases h0 : i = 0
        · subst h0
          rw [if_neg (by simp), if_pos rfl, hw, hstep]
          rfl
        · have hw2 : wrap64 ((i : Int) - 1) = ((i - 1 : Nat) : Int) := by rw [w64_in' _ (by omega) (by omega)]; omega
          have hl1 : i - 1 < l.length := by omega
          rw [if_pos (by omega), if_neg h0, hw2, if_pos (by omega), if_pos (by omega), rdP_at l (i - 1) hl1, hw]
          have hd : (namesP l).drop (i - 1) = l[i - 1].f0 :: (namesP l).drop i := by
            rw [namesP, List.drop_eq_getElem_cons (by simpa using hl1)]
            simp [show i - 1 + 1 = i by omega]
          have hd2 : (namesP l).drop i = l[i].f0 :: (namesP l).drop (i + 1) := by
            rw [namesP, List.drop_eq_getElem_cons (by simpa using hl)]; simp
          rw [hd, hd2, sortedB, sortedFrom]
          rw [hd2, sortedB] at hstep
          cases hb : ltS l[i - 1].f0 l[i].f0
          · rw [if_neg (show ¬ Op.bytesLess _ _ = true by rw [show Op.bytesLess _ _ = false from hb]; simp)]
            simp
          · rw [if_pos (show Op.bytesLess _ _ = true from hb), hstep, Bool.true_and]
      · rw [if_neg hc]
        have : (chkP l[i] == 0) = false := by simpa using hc
        rw [List.all_cons, this]
        simp only [Bool.false_and]
    · have hi2 : i = l.length := by omega
      rw [if_neg (by omega), List.drop_eq_nil_of_le (by omega)]
      have hs : (if i = 0 then sortedB (namesP l) else sortedB ((namesP l).drop (i - 1))) = true := by
        by_cases h0 : i = 0
        · rw [if_pos h0]
          have : l = [] := List.eq_nil_of_length_eq_zero (by omega)
          rw [this]; rfl
        · rw [if_neg h0]
          have hd : (namesP l).drop (i - 1) = [l[i - 1].f0] := by
            rw [namesP, List.drop_eq_getElem_cons (by simp; omega), List.drop_eq_nil_of_le (by simp; omega)]; simp
          rw [hd]; rfl
      rw [hs]
      simp only [List.all_nil, Bool.true_and, Option.some.injEq]
      rw [Bool.eq_iff_iff, decide_eq_true_eq, decide_eq_true_eq]
      omega
theorem rright_is (l : List S39) (hm : l.length ≤ 4611686018427387904) (hz : ∀ x ∈ l, szP x) (k : Nat) (hk : l.length + 42 ≤ k) : chicaneref14_Right.f k l = some (rightB l) := by
  have := rright_l0 l hm hz k 0 (by omega) (by omega)
  rw [List.drop_zero, if_pos rfl] at this
  exact this
end Go.Proofs.YtlglbpjccpdloaaGreat.Ext
set_option linter.unusedVariables false
set_option linter.unusedSimpArgs false
namespace Go.Proofs.YtlglbpjccpdloaaGreat.Ext
open Go.RowKit Go.Proofs.YtlglbpjccpdloaaGreat.PNamA Go.Proofs.YtlglbpjccpdloaaGreat.Tox Go.Proofs.YtlglbpjccpdloaaGreat.ToxZ Go.Proofs.YtlglbpjccpdloaaGreatW.PrintWords Go.Proofs.YtlglbpjccpdloaaGreatW.PrintLast
theorem place_all_nodup {ns : List ByteArray} (h : ∀ (j : Nat) (hj : j < ns.length), place ns ns[j] = (j : Int)) : ns.Nodup := by
  rw [List.nodup_iff_pairwise_ne, List.pairwise_iff_getElem]
  intro i j hi hj hij he
  have h1 := h i hi
  have h2 := h j hj
  rw [he] at h1
  omega
theorem nodup_place {ns : List ByteArray} (h : ns.Nodup) (j : Nat) (hj : j < ns.length) : place ns ns[j] = (j : Int) := by
  rcases place_spec ns ns[j] with ⟨_, h2⟩ | ⟨k, h1, h2, h3⟩
  · exact absurd (List.getElem_mem hj) h2
  · obtain ⟨hk, he⟩ := List.getElem?_eq_some_iff.1 h2
    have : k = j := by
      rw [List.nodup_iff_pairwise_ne, List.pairwise_iff_getElem] at h
      rcases Nat.lt_trichotomy k j with hlt | he2 | hlt
      · exact absurd he (h k j hk hj hlt)
      · exact he2
      · exact absurd he.symm (h j k hj hk hlt)
    rw [h1, this]
theorem dupR_iff (ns : List ByteArray) : ∀ (n i : Nat), ns.length - i = n → i ≤ ns.length → (dupR ns (ns.drop i) i = false ↔ ∀ (j : Nat) (hj : j < ns.length), i ≤ j → place ns ns[j] = (j : Int)) := by
  intro n
  induction n with
  | zero =>
    intro i hn hi
    rw [List.drop_eq_nil_of_le (by omega)]
    exact ⟨fun _ j hj hij => by omega, fun _ => rfl⟩
  | succ n ih =>
    intro i hn hi
    have hl : i < ns.length := by omega
    rw [List.drop_eq_getElem_cons hl, dupR]
    by_cases hp : place ns ns[i] = (i : Int)
    · rw [if_pos hp, ih (i + 1) (by omega) (by omega)]
      refine ⟨fun h j hj hij => ?_, fun h j hj hij => h j hj (by omega)⟩
      by_cases hji : j = i
      · subst hji; exact hp
      · exact h j hj (by omega)
    · rw [if_neg hp]
      exact ⟨fun h => (by cases h), fun h => absurd (h i hl (Nat.le_refl _)) hp⟩
theorem dup_iff (ns : List ByteArray) : dupR ns ns 0 = false ↔ ns.Nodup := by
  have h := dupR_iff ns ns.length 0 (by omega) (by omega)
  rw [List.drop_zero] at h
  rw [h]
  exact ⟨fun h => place_all_nodup fun j hj => h j hj (by omega), fun h j hj _ => nodup_place h j hj⟩
theorem first_iff : ∀ l : List S24, firstBad l = 0 ↔ ∀ t ∈ l, ckT t = 0
  | [] => by simp [firstBad]
  | t :: r => by
    have ih := first_iff r
    rw [firstBad]
    by_cases h : ckT t = 0
    · rw [if_pos h, ih]; simp [h]
    · rw [if_neg h]; simp [h]
theorem tox_iff (l : List S24) : toxOk l = 0 ↔ (∀ t ∈ l, ckT t = 0) ∧ (namesT l).Nodup := by
  unfold toxOk
  rw [← first_iff, ← dup_iff]
  by_cases h : firstBad l = 0
  · rw [if_pos h]
    cases dupR (namesT l) (namesT l) 0 <;> simp [h]
  · rw [if_neg h]
    simp [h]
theorem chk_iff (x : S39) : chkP x = 0 ↔ nameOk x.f0 = true ∧ 1 ≤ x.f2 ∧ x.f2 ≤ 16 ∧ x.f3.length ≤ 8 ∧ (∀ t ∈ x.f3, ckT t = 0) ∧ (namesT x.f3).Nodup := by
  unfold chkP
  by_cases hn : nameOk x.f0 = true
  · rw [if_pos hn]
    by_cases h2 : 1 ≤ x.f2 ∧ x.f2 ≤ 16
    · rw [if_pos h2]
      by_cases h3 : x.f3.length > 8
      · rw [if_pos h3]
        exact ⟨fun h => (by cases h), fun h => by omega⟩
      · rw [if_neg h3, tox_iff]
        exact ⟨fun h => ⟨hn, h2.1, h2.2, by omega, h.1, h.2⟩, fun h => ⟨h.2.2.2.2.1, h.2.2.2.2.2⟩⟩
    · rw [if_neg h2]
      exact ⟨fun h => (by cases h), fun h => absurd ⟨h.2.1, h.2.2.1⟩ h2⟩
  · rw [if_neg hn]
    exact ⟨fun h => (by cases h), fun h => absurd h.1 hn⟩
theorem right_iff (l : List S39) : rightB l = true ↔ (∀ x ∈ l, chkP x = 0) ∧ (namesP l).Pairwise (fun a b => ltS a b = true) ∧ l.length ≤ 8 := by
  constructor
  · intro h
    exact ⟨(right_len h).2, right_pair h, (right_len h).1⟩
  · rintro ⟨h1, h2, h3⟩
    unfold rightB
    simp only [Bool.and_eq_true, decide_eq_true_eq, List.all_eq_true, beq_iff_eq]
    exact ⟨⟨h1, pair_sorted _ h2⟩, h3⟩
theorem names_set {l : List S39} {k : Nat} {x y : S39} (hx : l[k]? = some x) (he : y.f0 = x.f0) : namesP (l.set k y) = namesP l := by
  unfold namesP
  rw [List.map_set]
  apply List.ext_getElem?
  intro j
  rw [List.getElem?_set]
  split
  · rename_i h; subst h
    obtain ⟨hk, hx'⟩ := List.getElem?_eq_some_iff.1 hx
    rw [if_pos (by simpa using hk), List.getElem?_map, hx, he]
    rfl
  · rfl
theorem right_set {l : List S39} {k : Nat} {x y : S39} (h : rightB l = true) (hx : l[k]? = some x) (he : y.f0 = x.f0) (hy : chkP y = 0) : rightB (l.set k y) = true := by
  obtain ⟨h1, h2, h3⟩ := (right_iff l).1 h
  refine (right_iff _).2 ⟨fun z hz => ?_, by rw [names_set hx he]; exact h2, by rw [List.length_set]; exact h3⟩
  rcases List.mem_or_eq_of_mem_set hz with hz | hz
  · exact h1 z hz
  · rw [hz]; exact hy
theorem place_at {l : List S39} {s : ByteArray} (h : ¬ place (namesP l) s < 0) : ∃ (k : Nat) (x : S39), place (namesP l) s = (k : Int) ∧ l[k]? = some x ∧ x.f0 = s := by
  rcases place_spec (namesP l) s with ⟨h1, _⟩ | ⟨k, h1, h2, _⟩
  · omega
  · rw [namesP, List.getElem?_map] at h2
    cases hx : l[k]? with
    | none => rw [hx] at h2; cases h2
    | some x => rw [hx] at h2; exact ⟨k, x, h1, hx, Option.some.inj h2⟩
theorem change_at (T : S39 → PT) {l : List S39} {s : ByteArray} {k : Nat} {x : S39} (h : rightB l = true) (hk : place (namesP l) s = (k : Int)) (hx : l[k]? = some x) : changeOf T l s = (l.set k (T x).1, (T x).2) := by
  unfold changeOf
  rw [if_pos h, if_neg (by omega), hk, Int.toNat_natCast, List.getD_eq_getElem?_getD, hx]
  rfl
theorem change_no (T : S39 → PT) {l : List S39} {s : ByteArray} (h : rightB l = true) (hk : place (namesP l) s < 0) : changeOf T l s = (l, 142) := by
  unfold changeOf
  rw [if_pos h, if_pos hk]
theorem addT_ok {t : S24} {x : S39} (hx : chkP x = 0) (h : (addT t x).2 = 0) : (addT t x).1 = ⟨x.f0, x.f1, x.f2, x.f3 ++ [t]⟩ ∧ chkP ⟨x.f0, x.f1, x.f2, x.f3 ++ [t]⟩ = 0 ∧ t.f0 ∉ namesT x.f3 := by
  unfold addT at h ⊢
  by_cases h1 : ckT t = 0
  · rw [if_neg (by simpa using h1)] at h ⊢
    by_cases h2 : 0 ≤ place (namesT x.f3) t.f0
    · rw [if_pos h2] at h; cases h
    · rw [if_neg h2] at h ⊢
      by_cases h3 : 8 ≤ x.f3.length
      · rw [if_pos h3] at h; cases h
      · rw [if_neg h3] at h ⊢
        have hnm : t.f0 ∉ namesT x.f3 := place_neg.1 (by omega)
        refine ⟨rfl, ?_, hnm⟩
        obtain ⟨a, b, c, d, e, f⟩ := (chk_iff x).1 hx
        refine (chk_iff _).2 ⟨a, b, c, by simp; omega, ?_, ?_⟩
        · intro u hu
          rcases List.mem_append.1 hu with hu | hu
          · exact e u hu
          · rw [List.mem_singleton.1 hu]; exact h1
        · simp only [namesT, List.map_append, List.map_cons, List.map_nil]
          rw [List.nodup_append]
          refine ⟨f, by simp, fun u hu v hv => ?_⟩
          rw [List.mem_singleton.1 hv]
          rintro rfl
          exact hnm hu
  · rw [if_pos (by simpa using h1)] at h
    exact absurd h h1
theorem right_ins {l : List S39} {p : S39} (h : rightB l = true) (hp : p.f0 ∉ namesP l) (hc : chkP p = 0) (hl : l.length < 8) : rightB (insP p l) = true := by
  have hperm := insP_perm p l
  refine (right_iff _).2 ⟨fun x hx => ?_, ?_, by rw [hperm.length_eq]; simp; omega⟩
  · rcases List.mem_cons.1 (hperm.mem_iff.1 hx) with hx | hx
    · rw [hx]; exact hc
    · exact (right_len h).2 x hx
  · have := insP_pair p l (right_pairP h) hp
    unfold namesP
    rw [List.pairwise_map]
    exact this
theorem add_ok {l : List S39} {s : ByteArray} {n : Int} (h : rightB l = true) (h0 : (addOf l s n).2 = 0) : (addOf l s n).1 = insP ⟨s, true, n, []⟩ l ∧ s ∉ namesP l ∧ chkP ⟨s, true, n, []⟩ = 0 ∧ l.length < 8 := by
  unfold addOf at h0 ⊢
  rw [if_pos h] at h0 ⊢
  by_cases h1 : nameOk s = true
  · rw [if_pos h1] at h0 ⊢
    by_cases h2 : 0 ≤ place (namesP l) s
    · rw [if_pos h2] at h0; cases h0
    · rw [if_neg h2] at h0 ⊢
      by_cases h3 : mayB n = true
      · rw [if_pos h3] at h0 ⊢
        by_cases h4 : 8 ≤ l.length
        · rw [if_pos h4] at h0; cases h0
        · rw [if_neg h4]
          unfold mayB at h3
          simp only [Bool.and_eq_true, decide_eq_true_eq] at h3
          exact ⟨rfl, place_neg.1 (by omega), (chk_iff _).2 ⟨h1, h3.1, h3.2, by simp, by simp, by simp [namesT]⟩, by omega⟩
      · rw [if_neg h3] at h0; cases h0
  · rw [if_neg h1] at h0; cases h0
end Go.Proofs.YtlglbpjccpdloaaGreat.Ext
