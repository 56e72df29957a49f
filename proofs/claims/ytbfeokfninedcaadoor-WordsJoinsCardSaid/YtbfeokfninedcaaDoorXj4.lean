/- Gathered by a program of this session (shake.py): what the claim's theorem needs. -/
import Derived.Test.YtbfeokfninedcaaDoorXj3
import Derived.SevenTiedAt
import Derived.Test.YtbfeokfninedcaaDoorCards
import Derived.Test.YtbfeokfninedcaaDoorTie
import Derived.LaidMore
import Derived.Stop.Joined
import Derived.Lay
import Derived.WalkKit
import Derived.ProofKit
import Derived.OpenShut
import Derived.ShutString
import Derived.ChangeOld
import Derived.Below
import Derived.SizedLaws
import Derived.Test.YtbfeokfninedcaaDoorRows
import Derived.SliceStrings
set_option linter.unusedVariables false
set_option linter.unusedSimpArgs false
namespace Go.Proofs.YtbfeokfninedcaaDoor.Ext
end Go.Proofs.YtbfeokfninedcaaDoor.Ext
namespace Go.Proofs.YtbfeokfninedcaaDoor.PWrdA
end Go.Proofs.YtbfeokfninedcaaDoor.PWrdA
namespace Go.Proofs.YtbfeokfninedcaaDoor.PWrdB
end Go.Proofs.YtbfeokfninedcaaDoor.PWrdB
namespace Go.Proofs.YtbfeokfninedcaaDoorW.PrintLast
end Go.Proofs.YtbfeokfninedcaaDoorW.PrintLast
namespace Go.Proofs.YtbfeokfninedcaaDoorW.PrintMore
end Go.Proofs.YtbfeokfninedcaaDoorW.PrintMore
namespace Go.Proofs.YtbfeokfninedcaaDoorW.PrintWords
end Go.Proofs.YtbfeokfninedcaaDoorW.PrintWords
namespace Go.Proofs.YtbfeokfninedcaaDoor.PWrdB
open Go.Proofs.YtbfeokfninedcaaDoor.Ext Go.Proofs.YtbfeokfninedcaaDoor.PWrdA Go.RowKit Go.Proofs.YtbfeokfninedcaaDoorW.PrintWords Go.Proofs.YtbfeokfninedcaaDoorW.PrintLast Go.Proofs.YtbfeokfninedcaaDoorW.PrintMore
attribute [local go_sem] max2_int min2_int max_two min_two max_three min_three max_four min_four   -- for this text's walks alone
set_option linter.unusedVariables false
set_option linter.unusedSimpArgs false
private theorem pw_size_mk (l : Array UInt8) : (⟨l⟩ : ByteArray).size = l.size := rfl
def chicanelaw15_alive.f (k : Nat)  : Option (Bool) := (words_Split.f (⟨#[97, 32, 34, 98, 32, 99, 34, 32, 35, 32, 100]⟩ : ByteArray)).bind fun bt101 => ((words_Split.f (⟨#[97, 34, 98]⟩ : ByteArray)).bind fun bt106 => ((chicaneref15_Same.f k bt101.1 (([(⟨#[97]⟩ : ByteArray), (⟨#[98, 32, 99]⟩ : ByteArray)] : List ByteArray))).bind fun t114 => (if t114 = true then (if bt101.2.1 = 11 then (if bt101.2.2 = 0 then (if bt106.2.1 = 1 then (if bt106.2.2 = 150 then ((words_Join.f bt101.1).bind fun t115 => (if t115.toList = ([97, 32, 34, 98, 32, 99, 34] : List UInt8) then ((words_Lines.f (⟨#[97, 10, 98]⟩ : ByteArray)).bind fun t116 => (if (t116.length : Int) = 2 then ((words_Plain.f k (⟨#[97]⟩ : ByteArray)).bind fun t119 => (some t119)) else (some false))) else (some false))) else (some false)) else (some false)) else (some false)) else (some false)) else (some false))))
theorem chicanelaw15_alive.mono : ∀ k, LeO (chicanelaw15_alive.f k ) (chicanelaw15_alive.f (k + 1) ) := by
 intro  k
 unfold chicanelaw15_alive.f
 repeat' first
   | (with_reducible exact chicaneref15_Same.mono _ _ _)
   | (with_reducible exact words_Plain.mono _ _)
   | (with_reducible exact LeO.refl _)
   | (with_reducible exact LeO.none _)
   | (with_reducible refine LeO.ite ?_ ?_)
   | (with_reducible refine LeO.bind ?_ (fun _ => ?_))
   | exact chicaneref15_Same.mono _ _ _
   | exact words_Plain.mono _ _
   | exact LeO.none _
   | refine LeO.ite ?_ ?_
   | refine LeO.bind ?_ (fun _ => ?_)
set_option maxHeartbeats 8000000 in
set_option maxRecDepth 100000 in
theorem chicanelaw15_alive.calls (k : Nat)  (r : Bool) (w : World) (h : chicanelaw15_alive.f k  = some r) :
  Calls Tryd.prog 10 #[] w fun e w' => e = .returned (.bool r) ∧ Below w.heap.size w w' := by
 have HB := Aside0.mk (Below.refl w.heap.size w)
 have H : ((words_Split.f (⟨#[97, 32, 34, 98, 32, 99, 34, 32, 35, 32, 100]⟩ : ByteArray)).bind fun bt101 => ((words_Split.f (⟨#[97, 34, 98]⟩ : ByteArray)).bind fun bt106 => ((chicaneref15_Same.f k bt101.1 (([(⟨#[97]⟩ : ByteArray), (⟨#[98, 32, 99]⟩ : ByteArray)] : List ByteArray))).bind fun t114 => (if t114 = true then (if bt101.2.1 = 11 then (if bt101.2.2 = 0 then (if bt106.2.1 = 1 then (if bt106.2.2 = 150 then ((words_Join.f bt101.1).bind fun t115 => (if t115.toList = ([97, 32, 34, 98, 32, 99, 34] : List UInt8) then ((words_Lines.f (⟨#[97, 10, 98]⟩ : ByteArray)).bind fun t116 => (if (t116.length : Int) = 2 then ((words_Plain.f k (⟨#[97]⟩ : ByteArray)).bind fun t119 => (some t119)) else (some false))) else (some false))) else (some false)) else (some false)) else (some false)) else (some false)) else (some false))))) = some r := h
 clear h
 replace H := Option.bind_eq_some_iff.mp H
 obtain ⟨⟨t101, t102, t103⟩, A10, H⟩ := H
 replace H : ((words_Split.f (⟨#[97, 34, 98]⟩ : ByteArray)).bind fun bt106 => ((chicaneref15_Same.f k t101 (([(⟨#[97]⟩ : ByteArray), (⟨#[98, 32, 99]⟩ : ByteArray)] : List ByteArray))).bind fun t114 => (if t114 = true then (if t102 = 11 then (if t103 = 0 then (if bt106.2.1 = 1 then (if bt106.2.2 = 150 then ((words_Join.f t101).bind fun t115 => (if t115.toList = ([97, 32, 34, 98, 32, 99, 34] : List UInt8) then ((words_Lines.f (⟨#[97, 10, 98]⟩ : ByteArray)).bind fun t116 => (if (t116.length : Int) = 2 then ((words_Plain.f k (⟨#[97]⟩ : ByteArray)).bind fun t119 => (some t119)) else (some false))) else (some false))) else (some false)) else (some false)) else (some false)) else (some false)) else (some false)))) = some r := H
 have A1 := Aside0.mk A10
 clear A10
 replace H := Option.bind_eq_some_iff.mp H
 obtain ⟨⟨t106, t107, t108⟩, A20, H⟩ := H
 replace H : ((chicaneref15_Same.f k t101 (([(⟨#[97]⟩ : ByteArray), (⟨#[98, 32, 99]⟩ : ByteArray)] : List ByteArray))).bind fun t114 => (if t114 = true then (if t102 = 11 then (if t103 = 0 then (if t107 = 1 then (if t108 = 150 then ((words_Join.f t101).bind fun t115 => (if t115.toList = ([97, 32, 34, 98, 32, 99, 34] : List UInt8) then ((words_Lines.f (⟨#[97, 10, 98]⟩ : ByteArray)).bind fun t116 => (if (t116.length : Int) = 2 then ((words_Plain.f k (⟨#[97]⟩ : ByteArray)).bind fun t119 => (some t119)) else (some false))) else (some false))) else (some false)) else (some false)) else (some false)) else (some false)) else (some false))) = some r := H
 have A2 := Aside0.mk A20
 clear A20
 obtain ⟨y111, hy111⟩ : ∃ y_ : List ByteArray, y_ = (([(⟨#[97]⟩ : ByteArray), (⟨#[98, 32, 99]⟩ : ByteArray)] : List ByteArray)) := ⟨_, rfl⟩
 replace H : ((chicaneref15_Same.f k t101 y111).bind fun t114 => (if t114 = true then (if t102 = 11 then (if t103 = 0 then (if t107 = 1 then (if t108 = 150 then ((words_Join.f t101).bind fun t115 => (if t115.toList = ([97, 32, 34, 98, 32, 99, 34] : List UInt8) then ((words_Lines.f (⟨#[97, 10, 98]⟩ : ByteArray)).bind fun t116 => (if (t116.length : Int) = 2 then ((words_Plain.f k (⟨#[97]⟩ : ByteArray)).bind fun t119 => (some t119)) else (some false))) else (some false))) else (some false)) else (some false)) else (some false)) else (some false)) else (some false))) = some r := by first | (rw [hy111]; with_reducible exact H) | (have H2_ := (Option.bind_some _ _).symm.trans H; rw [hy111]; with_reducible exact H2_) | (have H2_ := (Option.bind_some _ _).symm.trans H; with_reducible exact H2_) | with_reducible exact H | (rw [hy111]; exact H) | exact H
 have Ny111 := Aside0.mk hy111
 clear hy111
 replace H := Option.bind_eq_some_iff.mp H
 obtain ⟨t114, A30, H⟩ := H
 replace H : (if t114 = true then (if t102 = 11 then (if t103 = 0 then (if t107 = 1 then (if t108 = 150 then ((words_Join.f t101).bind fun t115 => (if t115.toList = ([97, 32, 34, 98, 32, 99, 34] : List UInt8) then ((words_Lines.f (⟨#[97, 10, 98]⟩ : ByteArray)).bind fun t116 => (if (t116.length : Int) = 2 then ((words_Plain.f k (⟨#[97]⟩ : ByteArray)).bind fun t119 => (some t119)) else (some false))) else (some false))) else (some false)) else (some false)) else (some false)) else (some false)) else (some false)) = some r := H
 have A3 := Aside0.mk A30
 clear A30
 by_cases c4 : t114 = true
 ·subst c4
  have H1 : (if t102 = 11 then (if t103 = 0 then (if t107 = 1 then (if t108 = 150 then ((words_Join.f t101).bind fun t115 => (if t115.toList = ([97, 32, 34, 98, 32, 99, 34] : List UInt8) then ((words_Lines.f (⟨#[97, 10, 98]⟩ : ByteArray)).bind fun t116 => (if (t116.length : Int) = 2 then ((words_Plain.f k (⟨#[97]⟩ : ByteArray)).bind fun t119 => (some t119)) else (some false))) else (some false))) else (some false)) else (some false)) else (some false)) else (some false)) = some r := by rw [if_pos rfl] at H; exact H
  clear H
  have H := H1
  clear H1
  by_cases c5 : t102 = 11
  ·rw [if_pos c5] at H
   have c5b0 : (t102 == 11) = true := beq_iff_eq.mpr c5
   have c5b1 : (t102 != 11) = false := bne_eq_false_iff_eq.mpr c5
   clear c5
   by_cases c6 : t103 = 0
   ·rw [if_pos c6] at H
    have c6b0 : (t103 == 0) = true := beq_iff_eq.mpr c6
    have c6b1 : (t103 != 0) = false := bne_eq_false_iff_eq.mpr c6
    clear c6
    by_cases c7 : t107 = 1
    ·rw [if_pos c7] at H
     have c7b0 : (t107 == 1) = true := beq_iff_eq.mpr c7
     have c7b1 : (t107 != 1) = false := bne_eq_false_iff_eq.mpr c7
     clear c7
     by_cases c8 : t108 = 150
     ·rw [if_pos c8] at H
      have c8b0 : (t108 == 150) = true := beq_iff_eq.mpr c8
      have c8b1 : (t108 != 150) = false := bne_eq_false_iff_eq.mpr c8
      clear c8
      replace H := Option.bind_eq_some_iff.mp H
      obtain ⟨t115, A90, H⟩ := H
      replace H : (if t115.toList = ([97, 32, 34, 98, 32, 99, 34] : List UInt8) then ((words_Lines.f (⟨#[97, 10, 98]⟩ : ByteArray)).bind fun t116 => (if (t116.length : Int) = 2 then ((words_Plain.f k (⟨#[97]⟩ : ByteArray)).bind fun t119 => (some t119)) else (some false))) else (some false)) = some r := H
      have A9 := Aside0.mk A90
      clear A90
      by_cases c10 : t115.toList = ([97, 32, 34, 98, 32, 99, 34] : List UInt8)
      ·rw [if_pos c10] at H
       have c10b0 : (t115.toList == ([97, 32, 34, 98, 32, 99, 34] : List UInt8)) = true := beq_iff_eq.mpr c10
       have c10b1 : (t115.toList != ([97, 32, 34, 98, 32, 99, 34] : List UInt8)) = false := bne_eq_false_iff_eq.mpr c10
       clear c10
       replace H := Option.bind_eq_some_iff.mp H
       obtain ⟨t116, A110, H⟩ := H
       replace H : (if (t116.length : Int) = 2 then ((words_Plain.f k (⟨#[97]⟩ : ByteArray)).bind fun t119 => (some t119)) else (some false)) = some r := H
       have A11 := Aside0.mk A110
       clear A110
       by_cases c12 : (t116.length : Int) = 2
       ·rw [if_pos c12] at H
        have c12b0 : ((t116.length : Int) == 2) = true := beq_iff_eq.mpr c12
        have c12b1 : ((t116.length : Int) != 2) = false := bne_eq_false_iff_eq.mpr c12
        clear c12
        replace H := Option.bind_eq_some_iff.mp H
        obtain ⟨t119, A130, H⟩ := H
        replace H : (some t119) = some r := H
        have A13 := Aside0.mk A130
        clear A130
        obtain rfl := Option.some.inj H
        go_enter Tryd.func10, Tryd.ntmps10
        go_wp2_with (first | ((with_reducible refine gate_callee (f := 13) rfl ?_); refine goesL_ (some 8) rfl rfl Tryd.func13 (by kernel_rfl) rfl #[.string (⟨#[97, 32, 34, 98, 32, 99, 34, 32, 35, 32, 100]⟩ : ByteArray)] rfl (by (try simp only [List.map_toArray, List.map_cons, List.map_nil]); first | done | rfl | (simp only [List.length_drop, List.length_take]; rfl)) ?_; (with_reducible refine (words_Split.calls (⟨#[97, 32, 34, 98, 32, 99, 34, 32, 35, 32, 100]⟩ : ByteArray) t101 t102 t103 _ A1.out).mono ?_); rintro e w14 ⟨v104, rfl, ho0, hb⟩; refine ⟨_, rfl, ?_⟩; have n0_ := Aside0.mk (Kd.R_lower ho0 (below_size (by repeat (first | (with_reducible first | exact HB.out | apply below_alloc | apply pw_below_drewN | apply below_drew1) | exact HB.out)))); have n1_ := Aside0.mk (below_step (by repeat (first | (with_reducible first | exact HB.out | apply below_alloc | apply pw_below_drewN | apply below_drew1) | exact HB.out)) hb); clear HB; have HO105 := n0_; have HB := n1_; clear n0_ n1_; (try clear hb); (try clear hb2); (try clear hk); (try clear hi); (try clear ho0)) | ((with_reducible refine gate_callee (f := 13) rfl ?_); refine goesL_ (some 13) rfl rfl Tryd.func13 (by kernel_rfl) rfl #[.string (⟨#[97, 34, 98]⟩ : ByteArray)] rfl (by (try simp only [List.map_toArray, List.map_cons, List.map_nil]); first | done | rfl | (simp only [List.length_drop, List.length_take]; rfl)) ?_; (with_reducible refine (words_Split.calls (⟨#[97, 34, 98]⟩ : ByteArray) t106 t107 t108 _ A2.out).mono ?_); rintro e w15 ⟨v109, rfl, ho0, hb⟩; refine ⟨_, rfl, ?_⟩; have n0_ := Aside0.mk (Kd.R_elder' (by (with_reducible repeat (first | apply Kd.R_alloc | apply Kd.R_drewN | apply Kd.R_drew)); exact HO105.out) (Kd.R_base ho0) hb); have n1_ := Aside0.mk (Kd.R_lower (Kd.R_new' ho0 (Kd.R_lt (by (with_reducible repeat (first | apply Kd.R_alloc | apply Kd.R_drewN | apply Kd.R_drew)); exact HO105.out))) (below_size (by repeat (first | (with_reducible first | exact HB.out | apply below_alloc | apply pw_below_drewN | apply below_drew1) | exact HB.out)))); have n2_ := Aside0.mk (below_step (by repeat (first | (with_reducible first | exact HB.out | apply below_alloc | apply pw_below_drewN | apply below_drew1) | exact HB.out)) hb); clear HO105; clear HB; have HO105 := n0_; have HO110 := n1_; have HB := n2_; clear n0_ n1_ n2_; (try clear hb); (try clear hb2); (try clear hk); (try clear hi); (try clear ho0)) | ((with_reducible refine gate_dst (N := 18) rfl ?_); (try (refine gate_guard (by rfl) ?_; dsimp only)); refine Kd.R_lit Kd.string _ 9 ?hg (N := 18) ?hd (xs := ([(⟨#[97]⟩ : ByteArray), (⟨#[98, 32, 99]⟩ : ByteArray)] : List ByteArray)) (inner := [.string (⟨#[97]⟩ : ByteArray), .string (⟨#[98, 32, 99]⟩ : ByteArray)]) (ok := fun _ => True) (okp := fun _ => True) ?hr ?hp (fun _ hk => hk) trivial (Below.refl _ _) (Nat.le_refl _) (by simp) ?_; (case hd => rfl); (case hg => rfl); (case hr => first | (go_simp; done) | (go_simp; rfl)); (case hp => exact (Reps.one (show Kd.M Kd.string _ _ _ (⟨#[97]⟩ : ByteArray) [.string (⟨#[97]⟩ : ByteArray)] from rfl) (Reps.one (show Kd.M Kd.string _ _ _ (⟨#[98, 32, 99]⟩ : ByteArray) [.string (⟨#[98, 32, 99]⟩ : ByteArray)] from rfl) (Reps.none _ _)))); intro v112 w16 ho17 hb hg_ hnew_; clear hg_ hnew_; (first | rw [← Ny111.out] at ho17 | (simp only [Int.reduceToNat] at ho17; rw [← Ny111.out] at ho17)); have n0_ := Aside0.mk (Kd.R_elder' (by (with_reducible repeat (first | apply Kd.R_alloc | apply Kd.R_drewN | apply Kd.R_drew)); exact HO105.out) (Kd.R_base ho17) hb); have n1_ := Aside0.mk (Kd.R_elder' (by (with_reducible repeat (first | apply Kd.R_alloc | apply Kd.R_drewN | apply Kd.R_drew)); exact HO110.out) (Kd.R_base ho17) hb); have n2_ := Aside0.mk (Kd.R_lower (Kd.R_new' (Kd.R_new' ho17 (Kd.R_lt (by (with_reducible repeat (first | apply Kd.R_alloc | apply Kd.R_drewN | apply Kd.R_drew)); exact HO105.out))) (Kd.R_lt (by (with_reducible repeat (first | apply Kd.R_alloc | apply Kd.R_drewN | apply Kd.R_drew)); exact HO110.out))) (below_size (by repeat (first | (with_reducible first | exact HB.out | apply below_alloc | apply pw_below_drewN | apply below_drew1) | exact HB.out)))); have n3_ := Aside0.mk (below_step (by repeat (first | (with_reducible first | exact HB.out | apply below_alloc | apply pw_below_drewN | apply below_drew1) | exact HB.out)) hb); clear HO105; clear HO110; clear HB; have HO105 := n0_; have HO110 := n1_; have HO113 := n2_; have HB := n3_; clear n0_ n1_ n2_ n3_; clear hb ho17; obtain ⟨Ao18, co18, eo18⟩ := Kd.R_slice HO105.out; subst eo18; obtain ⟨Ao19, co19, eo19⟩ := Kd.R_slice HO113.out; subst eo19) | ((with_reducible refine gate_callee (f := 14) rfl ?_); refine goesL_ (some 19) rfl rfl Tryd.func14 (by kernel_rfl) rfl #[.slice Ao18 t101.length co18, .slice Ao19 y111.length co19] rfl (by (try simp only [List.map_toArray, List.map_cons, List.map_nil]); first | done | rfl | (simp only [List.length_drop, List.length_take]; rfl)) ?_; (with_reducible refine (chicaneref15_Same.calls k _ _ t101 _ _ y111 true _ ?side1 ?side2 ?side3 ?side4 A3.out).mono ?_); (case side1 => repeat (first | exact (Kd.R_reads' HO105.out).2.2 | (with_reducible refine Kd.C_alloc ?_ _) | (with_reducible refine Kd.C_drewN ?_ _) | (with_reducible refine Kd.C_drew ?_))); (case side2 => exact (Kd.R_reads' HO105.out).2.1); (case side3 => repeat (first | exact (Kd.R_reads' HO113.out).2.2 | (with_reducible refine Kd.C_alloc ?_ _) | (with_reducible refine Kd.C_drewN ?_ _) | (with_reducible refine Kd.C_drew ?_))); (case side4 => exact (Kd.R_reads' HO113.out).2.1); rintro e w' ⟨rfl, ⟨nd, rfl⟩⟩; refine ⟨_, rfl, ?_⟩) | (go_at_call 11; (with_reducible refine (words_Join.calls _ _ t101 t115 _ ?side1 ?side2 A9.out).mono ?_); (case side1 => repeat (first | exact (Kd.R_reads' HO105.out).2.2 | (with_reducible refine Kd.C_alloc ?_ _) | (with_reducible refine Kd.C_drewN ?_ _) | (with_reducible refine Kd.C_drew ?_))); (case side2 => exact (Kd.R_reads' HO105.out).2.1); rintro e w20 ⟨rfl, hb⟩; have n0_ := Aside0.mk (Kd.R_below (by (with_reducible repeat (first | apply Kd.R_alloc | apply Kd.R_drewN | apply Kd.R_drew)); exact HO105.out) hb); have n1_ := Aside0.mk (Kd.R_below (by (with_reducible repeat (first | apply Kd.R_alloc | apply Kd.R_drewN | apply Kd.R_drew)); exact HO110.out) hb); have n2_ := Aside0.mk (Kd.R_below (by (with_reducible repeat (first | apply Kd.R_alloc | apply Kd.R_drewN | apply Kd.R_drew)); exact HO113.out) hb); have n3_ := Aside0.mk (below_step (by repeat (first | (with_reducible first | exact HB.out | apply below_alloc | apply pw_below_drewN | apply below_drew1) | exact HB.out)) hb); clear HO105; clear HO110; clear HO113; clear HB; have HO105 := n0_; have HO110 := n1_; have HO113 := n2_; have HB := n3_; clear n0_ n1_ n2_ n3_; (try clear hb); (try clear hb2); (try clear hk); (try clear hi)) | (go_at_call 15; (with_reducible refine (words_Lines.calls (⟨#[97, 10, 98]⟩ : ByteArray) t116 _ A11.out).mono ?_); rintro e w21 ⟨v117, rfl, ho0, hb⟩; have n0_ := Aside0.mk (Kd.R_elder' (by (with_reducible repeat (first | apply Kd.R_alloc | apply Kd.R_drewN | apply Kd.R_drew)); exact HO105.out) (Kd.R_base ho0) hb); have n1_ := Aside0.mk (Kd.R_elder' (by (with_reducible repeat (first | apply Kd.R_alloc | apply Kd.R_drewN | apply Kd.R_drew)); exact HO110.out) (Kd.R_base ho0) hb); have n2_ := Aside0.mk (Kd.R_elder' (by (with_reducible repeat (first | apply Kd.R_alloc | apply Kd.R_drewN | apply Kd.R_drew)); exact HO113.out) (Kd.R_base ho0) hb); have n3_ := Aside0.mk (Kd.R_lower (Kd.R_new' (Kd.R_new' (Kd.R_new' ho0 (Kd.R_lt (by (with_reducible repeat (first | apply Kd.R_alloc | apply Kd.R_drewN | apply Kd.R_drew)); exact HO105.out))) (Kd.R_lt (by (with_reducible repeat (first | apply Kd.R_alloc | apply Kd.R_drewN | apply Kd.R_drew)); exact HO110.out))) (Kd.R_lt (by (with_reducible repeat (first | apply Kd.R_alloc | apply Kd.R_drewN | apply Kd.R_drew)); exact HO113.out))) (below_size (by repeat (first | (with_reducible first | exact HB.out | apply below_alloc | apply pw_below_drewN | apply below_drew1) | exact HB.out)))); have n4_ := Aside0.mk (below_step (by repeat (first | (with_reducible first | exact HB.out | apply below_alloc | apply pw_below_drewN | apply below_drew1) | exact HB.out)) hb); clear HO105; clear HO110; clear HO113; clear HB; have HO105 := n0_; have HO110 := n1_; have HO113 := n2_; have HO118 := n3_; have HB := n4_; clear n0_ n1_ n2_ n3_ n4_; (try clear hb); (try clear hb2); (try clear hk); (try clear hi); (try clear ho0); obtain ⟨Ao22, co22, eo22⟩ := Kd.R_slice HO118.out; subst eo22) | (go_at_call 8; (with_reducible refine (words_Plain.calls k (⟨#[97]⟩ : ByteArray) t119 _ A13.out).mono ?_); rintro e w' ⟨rfl, ⟨nd, rfl⟩⟩))
        go_ret
        exact ⟨by first | rfl | (simp [errW_none, errW_some] <;> rfl) | (simp [*, errW_none, errW_some] <;> rfl), by repeat (first | (with_reducible first | exact HB.out | apply below_alloc | apply pw_below_drewN | apply below_drew1) | exact HB.out)⟩
       ·rw [if_neg c12] at H
        have c12b0 : ((t116.length : Int) == 2) = false := beq_eq_false_iff_ne.mpr c12
        have c12b1 : ((t116.length : Int) != 2) = true := bne_iff_ne.mpr c12
        obtain rfl := Option.some.inj H
        go_enter Tryd.func10, Tryd.ntmps10
        go_wp2_with (first | ((with_reducible refine gate_callee (f := 13) rfl ?_); refine goesL_ (some 8) rfl rfl Tryd.func13 (by kernel_rfl) rfl #[.string (⟨#[97, 32, 34, 98, 32, 99, 34, 32, 35, 32, 100]⟩ : ByteArray)] rfl (by (try simp only [List.map_toArray, List.map_cons, List.map_nil]); first | done | rfl | (simp only [List.length_drop, List.length_take]; rfl)) ?_; (with_reducible refine (words_Split.calls (⟨#[97, 32, 34, 98, 32, 99, 34, 32, 35, 32, 100]⟩ : ByteArray) t101 t102 t103 _ A1.out).mono ?_); rintro e w23 ⟨v104, rfl, ho0, hb⟩; refine ⟨_, rfl, ?_⟩; have n0_ := Aside0.mk (Kd.R_lower ho0 (below_size (by repeat (first | (with_reducible first | exact HB.out | apply below_alloc | apply pw_below_drewN | apply below_drew1) | exact HB.out)))); have n1_ := Aside0.mk (below_step (by repeat (first | (with_reducible first | exact HB.out | apply below_alloc | apply pw_below_drewN | apply below_drew1) | exact HB.out)) hb); clear HB; have HO105 := n0_; have HB := n1_; clear n0_ n1_; (try clear hb); (try clear hb2); (try clear hk); (try clear hi); (try clear ho0)) | ((with_reducible refine gate_callee (f := 13) rfl ?_); refine goesL_ (some 13) rfl rfl Tryd.func13 (by kernel_rfl) rfl #[.string (⟨#[97, 34, 98]⟩ : ByteArray)] rfl (by (try simp only [List.map_toArray, List.map_cons, List.map_nil]); first | done | rfl | (simp only [List.length_drop, List.length_take]; rfl)) ?_; (with_reducible refine (words_Split.calls (⟨#[97, 34, 98]⟩ : ByteArray) t106 t107 t108 _ A2.out).mono ?_); rintro e w24 ⟨v109, rfl, ho0, hb⟩; refine ⟨_, rfl, ?_⟩; have n0_ := Aside0.mk (Kd.R_elder' (by (with_reducible repeat (first | apply Kd.R_alloc | apply Kd.R_drewN | apply Kd.R_drew)); exact HO105.out) (Kd.R_base ho0) hb); have n1_ := Aside0.mk (Kd.R_lower (Kd.R_new' ho0 (Kd.R_lt (by (with_reducible repeat (first | apply Kd.R_alloc | apply Kd.R_drewN | apply Kd.R_drew)); exact HO105.out))) (below_size (by repeat (first | (with_reducible first | exact HB.out | apply below_alloc | apply pw_below_drewN | apply below_drew1) | exact HB.out)))); have n2_ := Aside0.mk (below_step (by repeat (first | (with_reducible first | exact HB.out | apply below_alloc | apply pw_below_drewN | apply below_drew1) | exact HB.out)) hb); clear HO105; clear HB; have HO105 := n0_; have HO110 := n1_; have HB := n2_; clear n0_ n1_ n2_; (try clear hb); (try clear hb2); (try clear hk); (try clear hi); (try clear ho0)) | ((with_reducible refine gate_dst (N := 18) rfl ?_); (try (refine gate_guard (by rfl) ?_; dsimp only)); refine Kd.R_lit Kd.string _ 9 ?hg (N := 18) ?hd (xs := ([(⟨#[97]⟩ : ByteArray), (⟨#[98, 32, 99]⟩ : ByteArray)] : List ByteArray)) (inner := [.string (⟨#[97]⟩ : ByteArray), .string (⟨#[98, 32, 99]⟩ : ByteArray)]) (ok := fun _ => True) (okp := fun _ => True) ?hr ?hp (fun _ hk => hk) trivial (Below.refl _ _) (Nat.le_refl _) (by simp) ?_; (case hd => rfl); (case hg => rfl); (case hr => first | (go_simp; done) | (go_simp; rfl)); (case hp => exact (Reps.one (show Kd.M Kd.string _ _ _ (⟨#[97]⟩ : ByteArray) [.string (⟨#[97]⟩ : ByteArray)] from rfl) (Reps.one (show Kd.M Kd.string _ _ _ (⟨#[98, 32, 99]⟩ : ByteArray) [.string (⟨#[98, 32, 99]⟩ : ByteArray)] from rfl) (Reps.none _ _)))); intro v112 w25 ho26 hb hg_ hnew_; clear hg_ hnew_; (first | rw [← Ny111.out] at ho26 | (simp only [Int.reduceToNat] at ho26; rw [← Ny111.out] at ho26)); have n0_ := Aside0.mk (Kd.R_elder' (by (with_reducible repeat (first | apply Kd.R_alloc | apply Kd.R_drewN | apply Kd.R_drew)); exact HO105.out) (Kd.R_base ho26) hb); have n1_ := Aside0.mk (Kd.R_elder' (by (with_reducible repeat (first | apply Kd.R_alloc | apply Kd.R_drewN | apply Kd.R_drew)); exact HO110.out) (Kd.R_base ho26) hb); have n2_ := Aside0.mk (Kd.R_lower (Kd.R_new' (Kd.R_new' ho26 (Kd.R_lt (by (with_reducible repeat (first | apply Kd.R_alloc | apply Kd.R_drewN | apply Kd.R_drew)); exact HO105.out))) (Kd.R_lt (by (with_reducible repeat (first | apply Kd.R_alloc | apply Kd.R_drewN | apply Kd.R_drew)); exact HO110.out))) (below_size (by repeat (first | (with_reducible first | exact HB.out | apply below_alloc | apply pw_below_drewN | apply below_drew1) | exact HB.out)))); have n3_ := Aside0.mk (below_step (by repeat (first | (with_reducible first | exact HB.out | apply below_alloc | apply pw_below_drewN | apply below_drew1) | exact HB.out)) hb); clear HO105; clear HO110; clear HB; have HO105 := n0_; have HO110 := n1_; have HO113 := n2_; have HB := n3_; clear n0_ n1_ n2_ n3_; clear hb ho26; obtain ⟨Ao27, co27, eo27⟩ := Kd.R_slice HO105.out; subst eo27; obtain ⟨Ao28, co28, eo28⟩ := Kd.R_slice HO113.out; subst eo28) | ((with_reducible refine gate_callee (f := 14) rfl ?_); refine goesL_ (some 19) rfl rfl Tryd.func14 (by kernel_rfl) rfl #[.slice Ao27 t101.length co27, .slice Ao28 y111.length co28] rfl (by (try simp only [List.map_toArray, List.map_cons, List.map_nil]); first | done | rfl | (simp only [List.length_drop, List.length_take]; rfl)) ?_; (with_reducible refine (chicaneref15_Same.calls k _ _ t101 _ _ y111 true _ ?side1 ?side2 ?side3 ?side4 A3.out).mono ?_); (case side1 => repeat (first | exact (Kd.R_reads' HO105.out).2.2 | (with_reducible refine Kd.C_alloc ?_ _) | (with_reducible refine Kd.C_drewN ?_ _) | (with_reducible refine Kd.C_drew ?_))); (case side2 => exact (Kd.R_reads' HO105.out).2.1); (case side3 => repeat (first | exact (Kd.R_reads' HO113.out).2.2 | (with_reducible refine Kd.C_alloc ?_ _) | (with_reducible refine Kd.C_drewN ?_ _) | (with_reducible refine Kd.C_drew ?_))); (case side4 => exact (Kd.R_reads' HO113.out).2.1); rintro e w' ⟨rfl, ⟨nd, rfl⟩⟩; refine ⟨_, rfl, ?_⟩) | (go_at_call 11; (with_reducible refine (words_Join.calls _ _ t101 t115 _ ?side1 ?side2 A9.out).mono ?_); (case side1 => repeat (first | exact (Kd.R_reads' HO105.out).2.2 | (with_reducible refine Kd.C_alloc ?_ _) | (with_reducible refine Kd.C_drewN ?_ _) | (with_reducible refine Kd.C_drew ?_))); (case side2 => exact (Kd.R_reads' HO105.out).2.1); rintro e w29 ⟨rfl, hb⟩; have n0_ := Aside0.mk (Kd.R_below (by (with_reducible repeat (first | apply Kd.R_alloc | apply Kd.R_drewN | apply Kd.R_drew)); exact HO105.out) hb); have n1_ := Aside0.mk (Kd.R_below (by (with_reducible repeat (first | apply Kd.R_alloc | apply Kd.R_drewN | apply Kd.R_drew)); exact HO110.out) hb); have n2_ := Aside0.mk (Kd.R_below (by (with_reducible repeat (first | apply Kd.R_alloc | apply Kd.R_drewN | apply Kd.R_drew)); exact HO113.out) hb); have n3_ := Aside0.mk (below_step (by repeat (first | (with_reducible first | exact HB.out | apply below_alloc | apply pw_below_drewN | apply below_drew1) | exact HB.out)) hb); clear HO105; clear HO110; clear HO113; clear HB; have HO105 := n0_; have HO110 := n1_; have HO113 := n2_; have HB := n3_; clear n0_ n1_ n2_ n3_; (try clear hb); (try clear hb2); (try clear hk); (try clear hi)) | (go_at_call 15; (with_reducible refine (words_Lines.calls (⟨#[97, 10, 98]⟩ : ByteArray) t116 _ A11.out).mono ?_); rintro e w30 ⟨v117, rfl, ho0, hb⟩; have n0_ := Aside0.mk (Kd.R_elder' (by (with_reducible repeat (first | apply Kd.R_alloc | apply Kd.R_drewN | apply Kd.R_drew)); exact HO105.out) (Kd.R_base ho0) hb); have n1_ := Aside0.mk (Kd.R_elder' (by (with_reducible repeat (first | apply Kd.R_alloc | apply Kd.R_drewN | apply Kd.R_drew)); exact HO110.out) (Kd.R_base ho0) hb); have n2_ := Aside0.mk (Kd.R_elder' (by (with_reducible repeat (first | apply Kd.R_alloc | apply Kd.R_drewN | apply Kd.R_drew)); exact HO113.out) (Kd.R_base ho0) hb); have n3_ := Aside0.mk (Kd.R_lower (Kd.R_new' (Kd.R_new' (Kd.R_new' ho0 (Kd.R_lt (by (with_reducible repeat (first | apply Kd.R_alloc | apply Kd.R_drewN | apply Kd.R_drew)); exact HO105.out))) (Kd.R_lt (by (with_reducible repeat (first | apply Kd.R_alloc | apply Kd.R_drewN | apply Kd.R_drew)); exact HO110.out))) (Kd.R_lt (by (with_reducible repeat (first | apply Kd.R_alloc | apply Kd.R_drewN | apply Kd.R_drew)); exact HO113.out))) (below_size (by repeat (first | (with_reducible first | exact HB.out | apply below_alloc | apply pw_below_drewN | apply below_drew1) | exact HB.out)))); have n4_ := Aside0.mk (below_step (by repeat (first | (with_reducible first | exact HB.out | apply below_alloc | apply pw_below_drewN | apply below_drew1) | exact HB.out)) hb); clear HO105; clear HO110; clear HO113; clear HB; have HO105 := n0_; have HO110 := n1_; have HO113 := n2_; have HO118 := n3_; have HB := n4_; clear n0_ n1_ n2_ n3_ n4_; (try clear hb); (try clear hb2); (try clear hk); (try clear hi); (try clear ho0); obtain ⟨Ao31, co31, eo31⟩ := Kd.R_slice HO118.out; subst eo31))
        go_ret
        exact ⟨by first | rfl | (simp [errW_none, errW_some] <;> rfl) | (simp [*, errW_none, errW_some] <;> rfl), by repeat (first | (with_reducible first | exact HB.out | apply below_alloc | apply pw_below_drewN | apply below_drew1) | exact HB.out)⟩
      ·rw [if_neg c10] at H
       have c10b0 : (t115.toList == ([97, 32, 34, 98, 32, 99, 34] : List UInt8)) = false := beq_eq_false_iff_ne.mpr c10
       have c10b1 : (t115.toList != ([97, 32, 34, 98, 32, 99, 34] : List UInt8)) = true := bne_iff_ne.mpr c10
       obtain rfl := Option.some.inj H
       go_enter Tryd.func10, Tryd.ntmps10
       go_wp2_with (first | ((with_reducible refine gate_callee (f := 13) rfl ?_); refine goesL_ (some 8) rfl rfl Tryd.func13 (by kernel_rfl) rfl #[.string (⟨#[97, 32, 34, 98, 32, 99, 34, 32, 35, 32, 100]⟩ : ByteArray)] rfl (by (try simp only [List.map_toArray, List.map_cons, List.map_nil]); first | done | rfl | (simp only [List.length_drop, List.length_take]; rfl)) ?_; (with_reducible refine (words_Split.calls (⟨#[97, 32, 34, 98, 32, 99, 34, 32, 35, 32, 100]⟩ : ByteArray) t101 t102 t103 _ A1.out).mono ?_); rintro e w32 ⟨v104, rfl, ho0, hb⟩; refine ⟨_, rfl, ?_⟩; have n0_ := Aside0.mk (Kd.R_lower ho0 (below_size (by repeat (first | (with_reducible first | exact HB.out | apply below_alloc | apply pw_below_drewN | apply below_drew1) | exact HB.out)))); have n1_ := Aside0.mk (below_step (by repeat (first | (with_reducible first | exact HB.out | apply below_alloc | apply pw_below_drewN | apply below_drew1) | exact HB.out)) hb); clear HB; have HO105 := n0_; have HB := n1_; clear n0_ n1_; (try clear hb); (try clear hb2); (try clear hk); (try clear hi); (try clear ho0)) | ((with_reducible refine gate_callee (f := 13) rfl ?_); refine goesL_ (some 13) rfl rfl Tryd.func13 (by kernel_rfl) rfl #[.string (⟨#[97, 34, 98]⟩ : ByteArray)] rfl (by (try simp only [List.map_toArray, List.map_cons, List.map_nil]); first | done | rfl | (simp only [List.length_drop, List.length_take]; rfl)) ?_; (with_reducible refine (words_Split.calls (⟨#[97, 34, 98]⟩ : ByteArray) t106 t107 t108 _ A2.out).mono ?_); rintro e w33 ⟨v109, rfl, ho0, hb⟩; refine ⟨_, rfl, ?_⟩; have n0_ := Aside0.mk (Kd.R_elder' (by (with_reducible repeat (first | apply Kd.R_alloc | apply Kd.R_drewN | apply Kd.R_drew)); exact HO105.out) (Kd.R_base ho0) hb); have n1_ := Aside0.mk (Kd.R_lower (Kd.R_new' ho0 (Kd.R_lt (by (with_reducible repeat (first | apply Kd.R_alloc | apply Kd.R_drewN | apply Kd.R_drew)); exact HO105.out))) (below_size (by repeat (first | (with_reducible first | exact HB.out | apply below_alloc | apply pw_below_drewN | apply below_drew1) | exact HB.out)))); have n2_ := Aside0.mk (below_step (by repeat (first | (with_reducible first | exact HB.out | apply below_alloc | apply pw_below_drewN | apply below_drew1) | exact HB.out)) hb); clear HO105; clear HB; have HO105 := n0_; have HO110 := n1_; have HB := n2_; clear n0_ n1_ n2_; (try clear hb); (try clear hb2); (try clear hk); (try clear hi); (try clear ho0)) | ((with_reducible refine gate_dst (N := 18) rfl ?_); (try (refine gate_guard (by rfl) ?_; dsimp only)); refine Kd.R_lit Kd.string _ 9 ?hg (N := 18) ?hd (xs := ([(⟨#[97]⟩ : ByteArray), (⟨#[98, 32, 99]⟩ : ByteArray)] : List ByteArray)) (inner := [.string (⟨#[97]⟩ : ByteArray), .string (⟨#[98, 32, 99]⟩ : ByteArray)]) (ok := fun _ => True) (okp := fun _ => True) ?hr ?hp (fun _ hk => hk) trivial (Below.refl _ _) (Nat.le_refl _) (by simp) ?_; (case hd => rfl); (case hg => rfl); (case hr => first | (go_simp; done) | (go_simp; rfl)); (case hp => exact (Reps.one (show Kd.M Kd.string _ _ _ (⟨#[97]⟩ : ByteArray) [.string (⟨#[97]⟩ : ByteArray)] from rfl) (Reps.one (show Kd.M Kd.string _ _ _ (⟨#[98, 32, 99]⟩ : ByteArray) [.string (⟨#[98, 32, 99]⟩ : ByteArray)] from rfl) (Reps.none _ _)))); intro v112 w34 ho35 hb hg_ hnew_; clear hg_ hnew_; (first | rw [← Ny111.out] at ho35 | (simp only [Int.reduceToNat] at ho35; rw [← Ny111.out] at ho35)); have n0_ := Aside0.mk (Kd.R_elder' (by (with_reducible repeat (first | apply Kd.R_alloc | apply Kd.R_drewN | apply Kd.R_drew)); exact HO105.out) (Kd.R_base ho35) hb); have n1_ := Aside0.mk (Kd.R_elder' (by (with_reducible repeat (first | apply Kd.R_alloc | apply Kd.R_drewN | apply Kd.R_drew)); exact HO110.out) (Kd.R_base ho35) hb); have n2_ := Aside0.mk (Kd.R_lower (Kd.R_new' (Kd.R_new' ho35 (Kd.R_lt (by (with_reducible repeat (first | apply Kd.R_alloc | apply Kd.R_drewN | apply Kd.R_drew)); exact HO105.out))) (Kd.R_lt (by (with_reducible repeat (first | apply Kd.R_alloc | apply Kd.R_drewN | apply Kd.R_drew)); exact HO110.out))) (below_size (by repeat (first | (with_reducible first | exact HB.out | apply below_alloc | apply pw_below_drewN | apply below_drew1) | exact HB.out)))); have n3_ := Aside0.mk (below_step (by repeat (first | (with_reducible first | exact HB.out | apply below_alloc | apply pw_below_drewN | apply below_drew1) | exact HB.out)) hb); clear HO105; clear HO110; clear HB; have HO105 := n0_; have HO110 := n1_; have HO113 := n2_; have HB := n3_; clear n0_ n1_ n2_ n3_; clear hb ho35; obtain ⟨Ao36, co36, eo36⟩ := Kd.R_slice HO105.out; subst eo36; obtain ⟨Ao37, co37, eo37⟩ := Kd.R_slice HO113.out; subst eo37) | ((with_reducible refine gate_callee (f := 14) rfl ?_); refine goesL_ (some 19) rfl rfl Tryd.func14 (by kernel_rfl) rfl #[.slice Ao36 t101.length co36, .slice Ao37 y111.length co37] rfl (by (try simp only [List.map_toArray, List.map_cons, List.map_nil]); first | done | rfl | (simp only [List.length_drop, List.length_take]; rfl)) ?_; (with_reducible refine (chicaneref15_Same.calls k _ _ t101 _ _ y111 true _ ?side1 ?side2 ?side3 ?side4 A3.out).mono ?_); (case side1 => repeat (first | exact (Kd.R_reads' HO105.out).2.2 | (with_reducible refine Kd.C_alloc ?_ _) | (with_reducible refine Kd.C_drewN ?_ _) | (with_reducible refine Kd.C_drew ?_))); (case side2 => exact (Kd.R_reads' HO105.out).2.1); (case side3 => repeat (first | exact (Kd.R_reads' HO113.out).2.2 | (with_reducible refine Kd.C_alloc ?_ _) | (with_reducible refine Kd.C_drewN ?_ _) | (with_reducible refine Kd.C_drew ?_))); (case side4 => exact (Kd.R_reads' HO113.out).2.1); rintro e w' ⟨rfl, ⟨nd, rfl⟩⟩; refine ⟨_, rfl, ?_⟩) | (go_at_call 11; (with_reducible refine (words_Join.calls _ _ t101 t115 _ ?side1 ?side2 A9.out).mono ?_); (case side1 => repeat (first | exact (Kd.R_reads' HO105.out).2.2 | (with_reducible refine Kd.C_alloc ?_ _) | (with_reducible refine Kd.C_drewN ?_ _) | (with_reducible refine Kd.C_drew ?_))); (case side2 => exact (Kd.R_reads' HO105.out).2.1); rintro e w38 ⟨rfl, hb⟩; have n0_ := Aside0.mk (Kd.R_below (by (with_reducible repeat (first | apply Kd.R_alloc | apply Kd.R_drewN | apply Kd.R_drew)); exact HO105.out) hb); have n1_ := Aside0.mk (Kd.R_below (by (with_reducible repeat (first | apply Kd.R_alloc | apply Kd.R_drewN | apply Kd.R_drew)); exact HO110.out) hb); have n2_ := Aside0.mk (Kd.R_below (by (with_reducible repeat (first | apply Kd.R_alloc | apply Kd.R_drewN | apply Kd.R_drew)); exact HO113.out) hb); have n3_ := Aside0.mk (below_step (by repeat (first | (with_reducible first | exact HB.out | apply below_alloc | apply pw_below_drewN | apply below_drew1) | exact HB.out)) hb); clear HO105; clear HO110; clear HO113; clear HB; have HO105 := n0_; have HO110 := n1_; have HO113 := n2_; have HB := n3_; clear n0_ n1_ n2_ n3_; (try clear hb); (try clear hb2); (try clear hk); (try clear hi)))
       go_ret
       exact ⟨by first | rfl | (simp [errW_none, errW_some] <;> rfl) | (simp [*, errW_none, errW_some] <;> rfl), by repeat (first | (with_reducible first | exact HB.out | apply below_alloc | apply pw_below_drewN | apply below_drew1) | exact HB.out)⟩
     ·rw [if_neg c8] at H
      have c8b0 : (t108 == 150) = false := beq_eq_false_iff_ne.mpr c8
      have c8b1 : (t108 != 150) = true := bne_iff_ne.mpr c8
      obtain rfl := Option.some.inj H
      go_enter Tryd.func10, Tryd.ntmps10
      go_wp2_with (first | ((with_reducible refine gate_callee (f := 13) rfl ?_); refine goesL_ (some 8) rfl rfl Tryd.func13 (by kernel_rfl) rfl #[.string (⟨#[97, 32, 34, 98, 32, 99, 34, 32, 35, 32, 100]⟩ : ByteArray)] rfl (by (try simp only [List.map_toArray, List.map_cons, List.map_nil]); first | done | rfl | (simp only [List.length_drop, List.length_take]; rfl)) ?_; (with_reducible refine (words_Split.calls (⟨#[97, 32, 34, 98, 32, 99, 34, 32, 35, 32, 100]⟩ : ByteArray) t101 t102 t103 _ A1.out).mono ?_); rintro e w39 ⟨v104, rfl, ho0, hb⟩; refine ⟨_, rfl, ?_⟩; have n0_ := Aside0.mk (Kd.R_lower ho0 (below_size (by repeat (first | (with_reducible first | exact HB.out | apply below_alloc | apply pw_below_drewN | apply below_drew1) | exact HB.out)))); have n1_ := Aside0.mk (below_step (by repeat (first | (with_reducible first | exact HB.out | apply below_alloc | apply pw_below_drewN | apply below_drew1) | exact HB.out)) hb); clear HB; have HO105 := n0_; have HB := n1_; clear n0_ n1_; (try clear hb); (try clear hb2); (try clear hk); (try clear hi); (try clear ho0)) | ((with_reducible refine gate_callee (f := 13) rfl ?_); refine goesL_ (some 13) rfl rfl Tryd.func13 (by kernel_rfl) rfl #[.string (⟨#[97, 34, 98]⟩ : ByteArray)] rfl (by (try simp only [List.map_toArray, List.map_cons, List.map_nil]); first | done | rfl | (simp only [List.length_drop, List.length_take]; rfl)) ?_; (with_reducible refine (words_Split.calls (⟨#[97, 34, 98]⟩ : ByteArray) t106 t107 t108 _ A2.out).mono ?_); rintro e w40 ⟨v109, rfl, ho0, hb⟩; refine ⟨_, rfl, ?_⟩; have n0_ := Aside0.mk (Kd.R_elder' (by (with_reducible repeat (first | apply Kd.R_alloc | apply Kd.R_drewN | apply Kd.R_drew)); exact HO105.out) (Kd.R_base ho0) hb); have n1_ := Aside0.mk (Kd.R_lower (Kd.R_new' ho0 (Kd.R_lt (by (with_reducible repeat (first | apply Kd.R_alloc | apply Kd.R_drewN | apply Kd.R_drew)); exact HO105.out))) (below_size (by repeat (first | (with_reducible first | exact HB.out | apply below_alloc | apply pw_below_drewN | apply below_drew1) | exact HB.out)))); have n2_ := Aside0.mk (below_step (by repeat (first | (with_reducible first | exact HB.out | apply below_alloc | apply pw_below_drewN | apply below_drew1) | exact HB.out)) hb); clear HO105; clear HB; have HO105 := n0_; have HO110 := n1_; have HB := n2_; clear n0_ n1_ n2_; (try clear hb); (try clear hb2); (try clear hk); (try clear hi); (try clear ho0)) | ((with_reducible refine gate_dst (N := 18) rfl ?_); (try (refine gate_guard (by rfl) ?_; dsimp only)); refine Kd.R_lit Kd.string _ 9 ?hg (N := 18) ?hd (xs := ([(⟨#[97]⟩ : ByteArray), (⟨#[98, 32, 99]⟩ : ByteArray)] : List ByteArray)) (inner := [.string (⟨#[97]⟩ : ByteArray), .string (⟨#[98, 32, 99]⟩ : ByteArray)]) (ok := fun _ => True) (okp := fun _ => True) ?hr ?hp (fun _ hk => hk) trivial (Below.refl _ _) (Nat.le_refl _) (by simp) ?_; (case hd => rfl); (case hg => rfl); (case hr => first | (go_simp; done) | (go_simp; rfl)); (case hp => exact (Reps.one (show Kd.M Kd.string _ _ _ (⟨#[97]⟩ : ByteArray) [.string (⟨#[97]⟩ : ByteArray)] from rfl) (Reps.one (show Kd.M Kd.string _ _ _ (⟨#[98, 32, 99]⟩ : ByteArray) [.string (⟨#[98, 32, 99]⟩ : ByteArray)] from rfl) (Reps.none _ _)))); intro v112 w41 ho42 hb hg_ hnew_; clear hg_ hnew_; (first | rw [← Ny111.out] at ho42 | (simp only [Int.reduceToNat] at ho42; rw [← Ny111.out] at ho42)); have n0_ := Aside0.mk (Kd.R_elder' (by (with_reducible repeat (first | apply Kd.R_alloc | apply Kd.R_drewN | apply Kd.R_drew)); exact HO105.out) (Kd.R_base ho42) hb); have n1_ := Aside0.mk (Kd.R_elder' (by (with_reducible repeat (first | apply Kd.R_alloc | apply Kd.R_drewN | apply Kd.R_drew)); exact HO110.out) (Kd.R_base ho42) hb); have n2_ := Aside0.mk (Kd.R_lower (Kd.R_new' (Kd.R_new' ho42 (Kd.R_lt (by (with_reducible repeat (first | apply Kd.R_alloc | apply Kd.R_drewN | apply Kd.R_drew)); exact HO105.out))) (Kd.R_lt (by (with_reducible repeat (first | apply Kd.R_alloc | apply Kd.R_drewN | apply Kd.R_drew)); exact HO110.out))) (below_size (by repeat (first | (with_reducible first | exact HB.out | apply below_alloc | apply pw_below_drewN | apply below_drew1) | exact HB.out)))); have n3_ := Aside0.mk (below_step (by repeat (first | (with_reducible first | exact HB.out | apply below_alloc | apply pw_below_drewN | apply below_drew1) | exact HB.out)) hb); clear HO105; clear HO110; clear HB; have HO105 := n0_; have HO110 := n1_; have HO113 := n2_; have HB := n3_; clear n0_ n1_ n2_ n3_; clear hb ho42; obtain ⟨Ao43, co43, eo43⟩ := Kd.R_slice HO105.out; subst eo43; obtain ⟨Ao44, co44, eo44⟩ := Kd.R_slice HO113.out; subst eo44) | ((with_reducible refine gate_callee (f := 14) rfl ?_); refine goesL_ (some 19) rfl rfl Tryd.func14 (by kernel_rfl) rfl #[.slice Ao43 t101.length co43, .slice Ao44 y111.length co44] rfl (by (try simp only [List.map_toArray, List.map_cons, List.map_nil]); first | done | rfl | (simp only [List.length_drop, List.length_take]; rfl)) ?_; (with_reducible refine (chicaneref15_Same.calls k _ _ t101 _ _ y111 true _ ?side1 ?side2 ?side3 ?side4 A3.out).mono ?_); (case side1 => repeat (first | exact (Kd.R_reads' HO105.out).2.2 | (with_reducible refine Kd.C_alloc ?_ _) | (with_reducible refine Kd.C_drewN ?_ _) | (with_reducible refine Kd.C_drew ?_))); (case side2 => exact (Kd.R_reads' HO105.out).2.1); (case side3 => repeat (first | exact (Kd.R_reads' HO113.out).2.2 | (with_reducible refine Kd.C_alloc ?_ _) | (with_reducible refine Kd.C_drewN ?_ _) | (with_reducible refine Kd.C_drew ?_))); (case side4 => exact (Kd.R_reads' HO113.out).2.1); rintro e w' ⟨rfl, ⟨nd, rfl⟩⟩; refine ⟨_, rfl, ?_⟩))
      go_ret
      exact ⟨by first | rfl | (simp [errW_none, errW_some] <;> rfl) | (simp [*, errW_none, errW_some] <;> rfl), by repeat (first | (with_reducible first | exact HB.out | apply below_alloc | apply pw_below_drewN | apply below_drew1) | exact HB.out)⟩
    ·rw [if_neg c7] at H
     have c7b0 : (t107 == 1) = false := beq_eq_false_iff_ne.mpr c7
     have c7b1 : (t107 != 1) = true := bne_iff_ne.mpr c7
     obtain rfl := Option.some.inj H
     go_enter Tryd.func10, Tryd.ntmps10
     go_wp2_with (first | ((with_reducible refine gate_callee (f := 13) rfl ?_); refine goesL_ (some 8) rfl rfl Tryd.func13 (by kernel_rfl) rfl #[.string (⟨#[97, 32, 34, 98, 32, 99, 34, 32, 35, 32, 100]⟩ : ByteArray)] rfl (by (try simp only [List.map_toArray, List.map_cons, List.map_nil]); first | done | rfl | (simp only [List.length_drop, List.length_take]; rfl)) ?_; (with_reducible refine (words_Split.calls (⟨#[97, 32, 34, 98, 32, 99, 34, 32, 35, 32, 100]⟩ : ByteArray) t101 t102 t103 _ A1.out).mono ?_); rintro e w45 ⟨v104, rfl, ho0, hb⟩; refine ⟨_, rfl, ?_⟩; have n0_ := Aside0.mk (Kd.R_lower ho0 (below_size (by repeat (first | (with_reducible first | exact HB.out | apply below_alloc | apply pw_below_drewN | apply below_drew1) | exact HB.out)))); have n1_ := Aside0.mk (below_step (by repeat (first | (with_reducible first | exact HB.out | apply below_alloc | apply pw_below_drewN | apply below_drew1) | exact HB.out)) hb); clear HB; have HO105 := n0_; have HB := n1_; clear n0_ n1_; (try clear hb); (try clear hb2); (try clear hk); (try clear hi); (try clear ho0)) | ((with_reducible refine gate_callee (f := 13) rfl ?_); refine goesL_ (some 13) rfl rfl Tryd.func13 (by kernel_rfl) rfl #[.string (⟨#[97, 34, 98]⟩ : ByteArray)] rfl (by (try simp only [List.map_toArray, List.map_cons, List.map_nil]); first | done | rfl | (simp only [List.length_drop, List.length_take]; rfl)) ?_; (with_reducible refine (words_Split.calls (⟨#[97, 34, 98]⟩ : ByteArray) t106 t107 t108 _ A2.out).mono ?_); rintro e w46 ⟨v109, rfl, ho0, hb⟩; refine ⟨_, rfl, ?_⟩; have n0_ := Aside0.mk (Kd.R_elder' (by (with_reducible repeat (first | apply Kd.R_alloc | apply Kd.R_drewN | apply Kd.R_drew)); exact HO105.out) (Kd.R_base ho0) hb); have n1_ := Aside0.mk (Kd.R_lower (Kd.R_new' ho0 (Kd.R_lt (by (with_reducible repeat (first | apply Kd.R_alloc | apply Kd.R_drewN | apply Kd.R_drew)); exact HO105.out))) (below_size (by repeat (first | (with_reducible first | exact HB.out | apply below_alloc | apply pw_below_drewN | apply below_drew1) | exact HB.out)))); have n2_ := Aside0.mk (below_step (by repeat (first | (with_reducible first | exact HB.out | apply below_alloc | apply pw_below_drewN | apply below_drew1) | exact HB.out)) hb); clear HO105; clear HB; have HO105 := n0_; have HO110 := n1_; have HB := n2_; clear n0_ n1_ n2_; (try clear hb); (try clear hb2); (try clear hk); (try clear hi); (try clear ho0)) | ((with_reducible refine gate_dst (N := 18) rfl ?_); (try (refine gate_guard (by rfl) ?_; dsimp only)); refine Kd.R_lit Kd.string _ 9 ?hg (N := 18) ?hd (xs := ([(⟨#[97]⟩ : ByteArray), (⟨#[98, 32, 99]⟩ : ByteArray)] : List ByteArray)) (inner := [.string (⟨#[97]⟩ : ByteArray), .string (⟨#[98, 32, 99]⟩ : ByteArray)]) (ok := fun _ => True) (okp := fun _ => True) ?hr ?hp (fun _ hk => hk) trivial (Below.refl _ _) (Nat.le_refl _) (by simp) ?_; (case hd => rfl); (case hg => rfl); (case hr => first | (go_simp; done) | (go_simp; rfl)); (case hp => exact (Reps.one (show Kd.M Kd.string _ _ _ (⟨#[97]⟩ : ByteArray) [.string (⟨#[97]⟩ : ByteArray)] from rfl) (Reps.one (show Kd.M Kd.string _ _ _ (⟨#[98, 32, 99]⟩ : ByteArray) [.string (⟨#[98, 32, 99]⟩ : ByteArray)] from rfl) (Reps.none _ _)))); intro v112 w47 ho48 hb hg_ hnew_; clear hg_ hnew_; (first | rw [← Ny111.out] at ho48 | (simp only [Int.reduceToNat] at ho48; rw [← Ny111.out] at ho48)); have n0_ := Aside0.mk (Kd.R_elder' (by (with_reducible repeat (first | apply Kd.R_alloc | apply Kd.R_drewN | apply Kd.R_drew)); exact HO105.out) (Kd.R_base ho48) hb); have n1_ := Aside0.mk (Kd.R_elder' (by (with_reducible repeat (first | apply Kd.R_alloc | apply Kd.R_drewN | apply Kd.R_drew)); exact HO110.out) (Kd.R_base ho48) hb); have n2_ := Aside0.mk (Kd.R_lower (Kd.R_new' (Kd.R_new' ho48 (Kd.R_lt (by (with_reducible repeat (first | apply Kd.R_alloc | apply Kd.R_drewN | apply Kd.R_drew)); exact HO105.out))) (Kd.R_lt (by (with_reducible repeat (first | apply Kd.R_alloc | apply Kd.R_drewN | apply Kd.R_drew)); exact HO110.out))) (below_size (by repeat (first | (with_reducible first | exact HB.out | apply below_alloc | apply pw_below_drewN | apply below_drew1) | exact HB.out)))); have n3_ := Aside0.mk (below_step (by repeat (first | (with_reducible first | exact HB.out | apply below_alloc | apply pw_below_drewN | apply below_drew1) | exact HB.out)) hb); clear HO105; clear HO110; clear HB; have HO105 := n0_; have HO110 := n1_; have HO113 := n2_; have HB := n3_; clear n0_ n1_ n2_ n3_; clear hb ho48; obtain ⟨Ao49, co49, eo49⟩ := Kd.R_slice HO105.out; subst eo49; obtain ⟨Ao50, co50, eo50⟩ := Kd.R_slice HO113.out; subst eo50) | ((with_reducible refine gate_callee (f := 14) rfl ?_); refine goesL_ (some 19) rfl rfl Tryd.func14 (by kernel_rfl) rfl #[.slice Ao49 t101.length co49, .slice Ao50 y111.length co50] rfl (by (try simp only [List.map_toArray, List.map_cons, List.map_nil]); first | done | rfl | (simp only [List.length_drop, List.length_take]; rfl)) ?_; (with_reducible refine (chicaneref15_Same.calls k _ _ t101 _ _ y111 true _ ?side1 ?side2 ?side3 ?side4 A3.out).mono ?_); (case side1 => repeat (first | exact (Kd.R_reads' HO105.out).2.2 | (with_reducible refine Kd.C_alloc ?_ _) | (with_reducible refine Kd.C_drewN ?_ _) | (with_reducible refine Kd.C_drew ?_))); (case side2 => exact (Kd.R_reads' HO105.out).2.1); (case side3 => repeat (first | exact (Kd.R_reads' HO113.out).2.2 | (with_reducible refine Kd.C_alloc ?_ _) | (with_reducible refine Kd.C_drewN ?_ _) | (with_reducible refine Kd.C_drew ?_))); (case side4 => exact (Kd.R_reads' HO113.out).2.1); rintro e w' ⟨rfl, ⟨nd, rfl⟩⟩; refine ⟨_, rfl, ?_⟩))
     go_ret
     exact ⟨by first | rfl | (simp [errW_none, errW_some] <;> rfl) | (simp [*, errW_none, errW_some] <;> rfl), by repeat (first | (with_reducible first | exact HB.out | apply below_alloc | apply pw_below_drewN | apply below_drew1) | exact HB.out)⟩
   ·rw [if_neg c6] at H
    have c6b0 : (t103 == 0) = false := beq_eq_false_iff_ne.mpr c6
    have c6b1 : (t103 != 0) = true := bne_iff_ne.mpr c6
    obtain rfl := Option.some.inj H
    go_enter Tryd.func10, Tryd.ntmps10
    go_wp2_with (first | ((with_reducible refine gate_callee (f := 13) rfl ?_); refine goesL_ (some 8) rfl rfl Tryd.func13 (by kernel_rfl) rfl #[.string (⟨#[97, 32, 34, 98, 32, 99, 34, 32, 35, 32, 100]⟩ : ByteArray)] rfl (by (try simp only [List.map_toArray, List.map_cons, List.map_nil]); first | done | rfl | (simp only [List.length_drop, List.length_take]; rfl)) ?_; (with_reducible refine (words_Split.calls (⟨#[97, 32, 34, 98, 32, 99, 34, 32, 35, 32, 100]⟩ : ByteArray) t101 t102 t103 _ A1.out).mono ?_); rintro e w51 ⟨v104, rfl, ho0, hb⟩; refine ⟨_, rfl, ?_⟩; have n0_ := Aside0.mk (Kd.R_lower ho0 (below_size (by repeat (first | (with_reducible first | exact HB.out | apply below_alloc | apply pw_below_drewN | apply below_drew1) | exact HB.out)))); have n1_ := Aside0.mk (below_step (by repeat (first | (with_reducible first | exact HB.out | apply below_alloc | apply pw_below_drewN | apply below_drew1) | exact HB.out)) hb); clear HB; have HO105 := n0_; have HB := n1_; clear n0_ n1_; (try clear hb); (try clear hb2); (try clear hk); (try clear hi); (try clear ho0)) | ((with_reducible refine gate_callee (f := 13) rfl ?_); refine goesL_ (some 13) rfl rfl Tryd.func13 (by kernel_rfl) rfl #[.string (⟨#[97, 34, 98]⟩ : ByteArray)] rfl (by (try simp only [List.map_toArray, List.map_cons, List.map_nil]); first | done | rfl | (simp only [List.length_drop, List.length_take]; rfl)) ?_; (with_reducible refine (words_Split.calls (⟨#[97, 34, 98]⟩ : ByteArray) t106 t107 t108 _ A2.out).mono ?_); rintro e w52 ⟨v109, rfl, ho0, hb⟩; refine ⟨_, rfl, ?_⟩; have n0_ := Aside0.mk (Kd.R_elder' (by (with_reducible repeat (first | apply Kd.R_alloc | apply Kd.R_drewN | apply Kd.R_drew)); exact HO105.out) (Kd.R_base ho0) hb); have n1_ := Aside0.mk (Kd.R_lower (Kd.R_new' ho0 (Kd.R_lt (by (with_reducible repeat (first | apply Kd.R_alloc | apply Kd.R_drewN | apply Kd.R_drew)); exact HO105.out))) (below_size (by repeat (first | (with_reducible first | exact HB.out | apply below_alloc | apply pw_below_drewN | apply below_drew1) | exact HB.out)))); have n2_ := Aside0.mk (below_step (by repeat (first | (with_reducible first | exact HB.out | apply below_alloc | apply pw_below_drewN | apply below_drew1) | exact HB.out)) hb); clear HO105; clear HB; have HO105 := n0_; have HO110 := n1_; have HB := n2_; clear n0_ n1_ n2_; (try clear hb); (try clear hb2); (try clear hk); (try clear hi); (try clear ho0)) | ((with_reducible refine gate_dst (N := 18) rfl ?_); (try (refine gate_guard (by rfl) ?_; dsimp only)); refine Kd.R_lit Kd.string _ 9 ?hg (N := 18) ?hd (xs := ([(⟨#[97]⟩ : ByteArray), (⟨#[98, 32, 99]⟩ : ByteArray)] : List ByteArray)) (inner := [.string (⟨#[97]⟩ : ByteArray), .string (⟨#[98, 32, 99]⟩ : ByteArray)]) (ok := fun _ => True) (okp := fun _ => True) ?hr ?hp (fun _ hk => hk) trivial (Below.refl _ _) (Nat.le_refl _) (by simp) ?_; (case hd => rfl); (case hg => rfl); (case hr => first | (go_simp; done) | (go_simp; rfl)); (case hp => exact (Reps.one (show Kd.M Kd.string _ _ _ (⟨#[97]⟩ : ByteArray) [.string (⟨#[97]⟩ : ByteArray)] from rfl) (Reps.one (show Kd.M Kd.string _ _ _ (⟨#[98, 32, 99]⟩ : ByteArray) [.string (⟨#[98, 32, 99]⟩ : ByteArray)] from rfl) (Reps.none _ _)))); intro v112 w53 ho54 hb hg_ hnew_; clear hg_ hnew_; (first | rw [← Ny111.out] at ho54 | (simp only [Int.reduceToNat] at ho54; rw [← Ny111.out] at ho54)); have n0_ := Aside0.mk (Kd.R_elder' (by (with_reducible repeat (first | apply Kd.R_alloc | apply Kd.R_drewN | apply Kd.R_drew)); exact HO105.out) (Kd.R_base ho54) hb); have n1_ := Aside0.mk (Kd.R_elder' (by (with_reducible repeat (first | apply Kd.R_alloc | apply Kd.R_drewN | apply Kd.R_drew)); exact HO110.out) (Kd.R_base ho54) hb); have n2_ := Aside0.mk (Kd.R_lower (Kd.R_new' (Kd.R_new' ho54 (Kd.R_lt (by (with_reducible repeat (first | apply Kd.R_alloc | apply Kd.R_drewN | apply Kd.R_drew)); exact HO105.out))) (Kd.R_lt (by (with_reducible repeat (first | apply Kd.R_alloc | apply Kd.R_drewN | apply Kd.R_drew)); exact HO110.out))) (below_size (by repeat (first | (with_reducible first | exact HB.out | apply below_alloc | apply pw_below_drewN | apply below_drew1) | exact HB.out)))); have n3_ := Aside0.mk (below_step (by repeat (first | (with_reducible first | exact HB.out | apply below_alloc | apply pw_below_drewN | apply below_drew1) | exact HB.out)) hb); clear HO105; clear HO110; clear HB; have HO105 := n0_; have HO110 := n1_; have HO113 := n2_; have HB := n3_; clear n0_ n1_ n2_ n3_; clear hb ho54; obtain ⟨Ao55, co55, eo55⟩ := Kd.R_slice HO105.out; subst eo55; obtain ⟨Ao56, co56, eo56⟩ := Kd.R_slice HO113.out; subst eo56) | ((with_reducible refine gate_callee (f := 14) rfl ?_); refine goesL_ (some 19) rfl rfl Tryd.func14 (by kernel_rfl) rfl #[.slice Ao55 t101.length co55, .slice Ao56 y111.length co56] rfl (by (try simp only [List.map_toArray, List.map_cons, List.map_nil]); first | done | rfl | (simp only [List.length_drop, List.length_take]; rfl)) ?_; (with_reducible refine (chicaneref15_Same.calls k _ _ t101 _ _ y111 true _ ?side1 ?side2 ?side3 ?side4 A3.out).mono ?_); (case side1 => repeat (first | exact (Kd.R_reads' HO105.out).2.2 | (with_reducible refine Kd.C_alloc ?_ _) | (with_reducible refine Kd.C_drewN ?_ _) | (with_reducible refine Kd.C_drew ?_))); (case side2 => exact (Kd.R_reads' HO105.out).2.1); (case side3 => repeat (first | exact (Kd.R_reads' HO113.out).2.2 | (with_reducible refine Kd.C_alloc ?_ _) | (with_reducible refine Kd.C_drewN ?_ _) | (with_reducible refine Kd.C_drew ?_))); (case side4 => exact (Kd.R_reads' HO113.out).2.1); rintro e w' ⟨rfl, ⟨nd, rfl⟩⟩; refine ⟨_, rfl, ?_⟩))
    go_ret
    exact ⟨by first | rfl | (simp [errW_none, errW_some] <;> rfl) | (simp [*, errW_none, errW_some] <;> rfl), by repeat (first | (with_reducible first | exact HB.out | apply below_alloc | apply pw_below_drewN | apply below_drew1) | exact HB.out)⟩
  ·rw [if_neg c5] at H
   have c5b0 : (t102 == 11) = false := beq_eq_false_iff_ne.mpr c5
   have c5b1 : (t102 != 11) = true := bne_iff_ne.mpr c5
   obtain rfl := Option.some.inj H
   go_enter Tryd.func10, Tryd.ntmps10
   go_wp2_with (first | ((with_reducible refine gate_callee (f := 13) rfl ?_); refine goesL_ (some 8) rfl rfl Tryd.func13 (by kernel_rfl) rfl #[.string (⟨#[97, 32, 34, 98, 32, 99, 34, 32, 35, 32, 100]⟩ : ByteArray)] rfl (by (try simp only [List.map_toArray, List.map_cons, List.map_nil]); first | done | rfl | (simp only [List.length_drop, List.length_take]; rfl)) ?_; (with_reducible refine (words_Split.calls (⟨#[97, 32, 34, 98, 32, 99, 34, 32, 35, 32, 100]⟩ : ByteArray) t101 t102 t103 _ A1.out).mono ?_); rintro e w57 ⟨v104, rfl, ho0, hb⟩; refine ⟨_, rfl, ?_⟩; have n0_ := Aside0.mk (Kd.R_lower ho0 (below_size (by repeat (first | (with_reducible first | exact HB.out | apply below_alloc | apply pw_below_drewN | apply below_drew1) | exact HB.out)))); have n1_ := Aside0.mk (below_step (by repeat (first | (with_reducible first | exact HB.out | apply below_alloc | apply pw_below_drewN | apply below_drew1) | exact HB.out)) hb); clear HB; have HO105 := n0_; have HB := n1_; clear n0_ n1_; (try clear hb); (try clear hb2); (try clear hk); (try clear hi); (try clear ho0)) | ((with_reducible refine gate_callee (f := 13) rfl ?_); refine goesL_ (some 13) rfl rfl Tryd.func13 (by kernel_rfl) rfl #[.string (⟨#[97, 34, 98]⟩ : ByteArray)] rfl (by (try simp only [List.map_toArray, List.map_cons, List.map_nil]); first | done | rfl | (simp only [List.length_drop, List.length_take]; rfl)) ?_; (with_reducible refine (words_Split.calls (⟨#[97, 34, 98]⟩ : ByteArray) t106 t107 t108 _ A2.out).mono ?_); rintro e w58 ⟨v109, rfl, ho0, hb⟩; refine ⟨_, rfl, ?_⟩; have n0_ := Aside0.mk (Kd.R_elder' (by (with_reducible repeat (first | apply Kd.R_alloc | apply Kd.R_drewN | apply Kd.R_drew)); exact HO105.out) (Kd.R_base ho0) hb); have n1_ := Aside0.mk (Kd.R_lower (Kd.R_new' ho0 (Kd.R_lt (by (with_reducible repeat (first | apply Kd.R_alloc | apply Kd.R_drewN | apply Kd.R_drew)); exact HO105.out))) (below_size (by repeat (first | (with_reducible first | exact HB.out | apply below_alloc | apply pw_below_drewN | apply below_drew1) | exact HB.out)))); have n2_ := Aside0.mk (below_step (by repeat (first | (with_reducible first | exact HB.out | apply below_alloc | apply pw_below_drewN | apply below_drew1) | exact HB.out)) hb); clear HO105; clear HB; have HO105 := n0_; have HO110 := n1_; have HB := n2_; clear n0_ n1_ n2_; (try clear hb); (try clear hb2); (try clear hk); (try clear hi); (try clear ho0)) | ((with_reducible refine gate_dst (N := 18) rfl ?_); (try (refine gate_guard (by rfl) ?_; dsimp only)); refine Kd.R_lit Kd.string _ 9 ?hg (N := 18) ?hd (xs := ([(⟨#[97]⟩ : ByteArray), (⟨#[98, 32, 99]⟩ : ByteArray)] : List ByteArray)) (inner := [.string (⟨#[97]⟩ : ByteArray), .string (⟨#[98, 32, 99]⟩ : ByteArray)]) (ok := fun _ => True) (okp := fun _ => True) ?hr ?hp (fun _ hk => hk) trivial (Below.refl _ _) (Nat.le_refl _) (by simp) ?_; (case hd => rfl); (case hg => rfl); (case hr => first | (go_simp; done) | (go_simp; rfl)); (case hp => exact (Reps.one (show Kd.M Kd.string _ _ _ (⟨#[97]⟩ : ByteArray) [.string (⟨#[97]⟩ : ByteArray)] from rfl) (Reps.one (show Kd.M Kd.string _ _ _ (⟨#[98, 32, 99]⟩ : ByteArray) [.string (⟨#[98, 32, 99]⟩ : ByteArray)] from rfl) (Reps.none _ _)))); intro v112 w59 ho60 hb hg_ hnew_; clear hg_ hnew_; (first | rw [← Ny111.out] at ho60 | (simp only [Int.reduceToNat] at ho60; rw [← Ny111.out] at ho60)); have n0_ := Aside0.mk (Kd.R_elder' (by (with_reducible repeat (first | apply Kd.R_alloc | apply Kd.R_drewN | apply Kd.R_drew)); exact HO105.out) (Kd.R_base ho60) hb); have n1_ := Aside0.mk (Kd.R_elder' (by (with_reducible repeat (first | apply Kd.R_alloc | apply Kd.R_drewN | apply Kd.R_drew)); exact HO110.out) (Kd.R_base ho60) hb); have n2_ := Aside0.mk (Kd.R_lower (Kd.R_new' (Kd.R_new' ho60 (Kd.R_lt (by (with_reducible repeat (first | apply Kd.R_alloc | apply Kd.R_drewN | apply Kd.R_drew)); exact HO105.out))) (Kd.R_lt (by (with_reducible repeat (first | apply Kd.R_alloc | apply Kd.R_drewN | apply Kd.R_drew)); exact HO110.out))) (below_size (by repeat (first | (with_reducible first | exact HB.out | apply below_alloc | apply pw_below_drewN | apply below_drew1) | exact HB.out)))); have n3_ := Aside0.mk (below_step (by repeat (first | (with_reducible first | exact HB.out | apply below_alloc | apply pw_below_drewN | apply below_drew1) | exact HB.out)) hb); clear HO105; clear HO110; clear HB; have HO105 := n0_; have HO110 := n1_; have HO113 := n2_; have HB := n3_; clear n0_ n1_ n2_ n3_; clear hb ho60; obtain ⟨Ao61, co61, eo61⟩ := Kd.R_slice HO105.out; subst eo61; obtain ⟨Ao62, co62, eo62⟩ := Kd.R_slice HO113.out; subst eo62) | ((with_reducible refine gate_callee (f := 14) rfl ?_); refine goesL_ (some 19) rfl rfl Tryd.func14 (by kernel_rfl) rfl #[.slice Ao61 t101.length co61, .slice Ao62 y111.length co62] rfl (by (try simp only [List.map_toArray, List.map_cons, List.map_nil]); first | done | rfl | (simp only [List.length_drop, List.length_take]; rfl)) ?_; (with_reducible refine (chicaneref15_Same.calls k _ _ t101 _ _ y111 true _ ?side1 ?side2 ?side3 ?side4 A3.out).mono ?_); (case side1 => repeat (first | exact (Kd.R_reads' HO105.out).2.2 | (with_reducible refine Kd.C_alloc ?_ _) | (with_reducible refine Kd.C_drewN ?_ _) | (with_reducible refine Kd.C_drew ?_))); (case side2 => exact (Kd.R_reads' HO105.out).2.1); (case side3 => repeat (first | exact (Kd.R_reads' HO113.out).2.2 | (with_reducible refine Kd.C_alloc ?_ _) | (with_reducible refine Kd.C_drewN ?_ _) | (with_reducible refine Kd.C_drew ?_))); (case side4 => exact (Kd.R_reads' HO113.out).2.1); rintro e w' ⟨rfl, ⟨nd, rfl⟩⟩; refine ⟨_, rfl, ?_⟩))
   go_ret
   exact ⟨by first | rfl | (simp [errW_none, errW_some] <;> rfl) | (simp [*, errW_none, errW_some] <;> rfl), by repeat (first | (with_reducible first | exact HB.out | apply below_alloc | apply pw_below_drewN | apply below_drew1) | exact HB.out)⟩
 ·replace c4 := Bool.eq_false_iff.mpr c4
  subst c4
  have H1 : (some false) = some r := by rw [if_neg (show ¬ (false = true) by decide)] at H; exact H
  clear H
  have H := H1
  clear H1
  obtain rfl := Option.some.inj H
  go_enter Tryd.func10, Tryd.ntmps10
  go_wp2_with (first | ((with_reducible refine gate_callee (f := 13) rfl ?_); refine goesL_ (some 8) rfl rfl Tryd.func13 (by kernel_rfl) rfl #[.string (⟨#[97, 32, 34, 98, 32, 99, 34, 32, 35, 32, 100]⟩ : ByteArray)] rfl (by (try simp only [List.map_toArray, List.map_cons, List.map_nil]); first | done | rfl | (simp only [List.length_drop, List.length_take]; rfl)) ?_; (with_reducible refine (words_Split.calls (⟨#[97, 32, 34, 98, 32, 99, 34, 32, 35, 32, 100]⟩ : ByteArray) t101 t102 t103 _ A1.out).mono ?_); rintro e w63 ⟨v104, rfl, ho0, hb⟩; refine ⟨_, rfl, ?_⟩; have n0_ := Aside0.mk (Kd.R_lower ho0 (below_size (by repeat (first | (with_reducible first | exact HB.out | apply below_alloc | apply pw_below_drewN | apply below_drew1) | exact HB.out)))); have n1_ := Aside0.mk (below_step (by repeat (first | (with_reducible first | exact HB.out | apply below_alloc | apply pw_below_drewN | apply below_drew1) | exact HB.out)) hb); clear HB; have HO105 := n0_; have HB := n1_; clear n0_ n1_; (try clear hb); (try clear hb2); (try clear hk); (try clear hi); (try clear ho0)) | ((with_reducible refine gate_callee (f := 13) rfl ?_); refine goesL_ (some 13) rfl rfl Tryd.func13 (by kernel_rfl) rfl #[.string (⟨#[97, 34, 98]⟩ : ByteArray)] rfl (by (try simp only [List.map_toArray, List.map_cons, List.map_nil]); first | done | rfl | (simp only [List.length_drop, List.length_take]; rfl)) ?_; (with_reducible refine (words_Split.calls (⟨#[97, 34, 98]⟩ : ByteArray) t106 t107 t108 _ A2.out).mono ?_); rintro e w64 ⟨v109, rfl, ho0, hb⟩; refine ⟨_, rfl, ?_⟩; have n0_ := Aside0.mk (Kd.R_elder' (by (with_reducible repeat (first | apply Kd.R_alloc | apply Kd.R_drewN | apply Kd.R_drew)); exact HO105.out) (Kd.R_base ho0) hb); have n1_ := Aside0.mk (Kd.R_lower (Kd.R_new' ho0 (Kd.R_lt (by (with_reducible repeat (first | apply Kd.R_alloc | apply Kd.R_drewN | apply Kd.R_drew)); exact HO105.out))) (below_size (by repeat (first | (with_reducible first | exact HB.out | apply below_alloc | apply pw_below_drewN | apply below_drew1) | exact HB.out)))); have n2_ := Aside0.mk (below_step (by repeat (first | (with_reducible first | exact HB.out | apply below_alloc | apply pw_below_drewN | apply below_drew1) | exact HB.out)) hb); clear HO105; clear HB; have HO105 := n0_; have HO110 := n1_; have HB := n2_; clear n0_ n1_ n2_; (try clear hb); (try clear hb2); (try clear hk); (try clear hi); (try clear ho0)) | ((with_reducible refine gate_dst (N := 18) rfl ?_); (try (refine gate_guard (by rfl) ?_; dsimp only)); refine Kd.R_lit Kd.string _ 9 ?hg (N := 18) ?hd (xs := ([(⟨#[97]⟩ : ByteArray), (⟨#[98, 32, 99]⟩ : ByteArray)] : List ByteArray)) (inner := [.string (⟨#[97]⟩ : ByteArray), .string (⟨#[98, 32, 99]⟩ : ByteArray)]) (ok := fun _ => True) (okp := fun _ => True) ?hr ?hp (fun _ hk => hk) trivial (Below.refl _ _) (Nat.le_refl _) (by simp) ?_; (case hd => rfl); (case hg => rfl); (case hr => first | (go_simp; done) | (go_simp; rfl)); (case hp => exact (Reps.one (show Kd.M Kd.string _ _ _ (⟨#[97]⟩ : ByteArray) [.string (⟨#[97]⟩ : ByteArray)] from rfl) (Reps.one (show Kd.M Kd.string _ _ _ (⟨#[98, 32, 99]⟩ : ByteArray) [.string (⟨#[98, 32, 99]⟩ : ByteArray)] from rfl) (Reps.none _ _)))); intro v112 w65 ho66 hb hg_ hnew_; clear hg_ hnew_; (first | rw [← Ny111.out] at ho66 | (simp only [Int.reduceToNat] at ho66; rw [← Ny111.out] at ho66)); have n0_ := Aside0.mk (Kd.R_elder' (by (with_reducible repeat (first | apply Kd.R_alloc | apply Kd.R_drewN | apply Kd.R_drew)); exact HO105.out) (Kd.R_base ho66) hb); have n1_ := Aside0.mk (Kd.R_elder' (by (with_reducible repeat (first | apply Kd.R_alloc | apply Kd.R_drewN | apply Kd.R_drew)); exact HO110.out) (Kd.R_base ho66) hb); have n2_ := Aside0.mk (Kd.R_lower (Kd.R_new' (Kd.R_new' ho66 (Kd.R_lt (by (with_reducible repeat (first | apply Kd.R_alloc | apply Kd.R_drewN | apply Kd.R_drew)); exact HO105.out))) (Kd.R_lt (by (with_reducible repeat (first | apply Kd.R_alloc | apply Kd.R_drewN | apply Kd.R_drew)); exact HO110.out))) (below_size (by repeat (first | (with_reducible first | exact HB.out | apply below_alloc | apply pw_below_drewN | apply below_drew1) | exact HB.out)))); have n3_ := Aside0.mk (below_step (by repeat (first | (with_reducible first | exact HB.out | apply below_alloc | apply pw_below_drewN | apply below_drew1) | exact HB.out)) hb); clear HO105; clear HO110; clear HB; have HO105 := n0_; have HO110 := n1_; have HO113 := n2_; have HB := n3_; clear n0_ n1_ n2_ n3_; clear hb ho66; obtain ⟨Ao67, co67, eo67⟩ := Kd.R_slice HO105.out; subst eo67; obtain ⟨Ao68, co68, eo68⟩ := Kd.R_slice HO113.out; subst eo68) | ((with_reducible refine gate_callee (f := 14) rfl ?_); refine goesL_ (some 19) rfl rfl Tryd.func14 (by kernel_rfl) rfl #[.slice Ao67 t101.length co67, .slice Ao68 y111.length co68] rfl (by (try simp only [List.map_toArray, List.map_cons, List.map_nil]); first | done | rfl | (simp only [List.length_drop, List.length_take]; rfl)) ?_; (with_reducible refine (chicaneref15_Same.calls k _ _ t101 _ _ y111 false _ ?side1 ?side2 ?side3 ?side4 A3.out).mono ?_); (case side1 => repeat (first | exact (Kd.R_reads' HO105.out).2.2 | (with_reducible refine Kd.C_alloc ?_ _) | (with_reducible refine Kd.C_drewN ?_ _) | (with_reducible refine Kd.C_drew ?_))); (case side2 => exact (Kd.R_reads' HO105.out).2.1); (case side3 => repeat (first | exact (Kd.R_reads' HO113.out).2.2 | (with_reducible refine Kd.C_alloc ?_ _) | (with_reducible refine Kd.C_drewN ?_ _) | (with_reducible refine Kd.C_drew ?_))); (case side4 => exact (Kd.R_reads' HO113.out).2.1); rintro e w' ⟨rfl, ⟨nd, rfl⟩⟩; refine ⟨_, rfl, ?_⟩))
  go_ret
  exact ⟨by first | rfl | (simp [errW_none, errW_some] <;> rfl) | (simp [*, errW_none, errW_some] <;> rfl), by repeat (first | (with_reducible first | exact HB.out | apply below_alloc | apply pw_below_drewN | apply below_drew1) | exact HB.out)⟩
def chicanelaw15_WordsJoins.l0 : Nat → List ByteArray → Int → List ByteArray → Int → Int → Option (Bool)
 | 0, _, _, _, _, _ => none
 | k + 1, x0, x3, x6, x7, x8 => if x8 < x7 then (if 0 ≤ x8 then (if x8 < (x6.length : Int) then ((words_Plain.f k (rdOf ByteArray.empty x6 x8)).bind fun t124 => ((chicaneref15_Plain.f k (rdOf ByteArray.empty x6 x8)).bind fun t125 => (if (t124 != t125) = true then (some false) else (chicanelaw15_WordsJoins.l0 k x0 (wrap64 (x3 + ((rdOf ByteArray.empty x6 x8).size : Int))) x6 x7 (wrap64 (x8 + 1)))))) else (none)) else (none)) else ((chicanelaw15_alive.f k).bind fun t120 => (if t120 = true then (if x3 > 2000 then (some true) else ((words_Join.f x0).bind fun t121 => ((chicaneref15_Join.f k x0).bind fun t122 => (some (t121.toList == t122.toList))))) else (some false)))
def chicanelaw15_WordsJoins.f (k : Nat) (l0 : List ByteArray) : Option (Bool) := chicanelaw15_WordsJoins.l0 k l0 0 l0 (l0.length : Int) 0
theorem chicanelaw15_WordsJoins.mono_l : ∀ k, (∀ y0 y1 y2 y3 y4, LeO (chicanelaw15_WordsJoins.l0 k y0 y1 y2 y3 y4) (chicanelaw15_WordsJoins.l0 (k + 1) y0 y1 y2 y3 y4))
 | 0 => fun _ _ _ _ _ r h => by simp [chicanelaw15_WordsJoins.l0] at h
 | k + 1 => by
  have ih0 := chicanelaw15_WordsJoins.mono_l k
  ·intro y0 y1 y2 y3 y4
   unfold chicanelaw15_WordsJoins.l0
   repeat' first
   | (with_reducible exact ih0 _ _ _ _ _)
   | (with_reducible exact chicanelaw15_alive.mono _)
   | (with_reducible exact chicaneref15_Join.mono _ _)
   | (with_reducible exact chicaneref15_Plain.mono _ _)
   | (with_reducible exact words_Plain.mono _ _)
   | (with_reducible exact LeO.refl _)
   | (with_reducible exact LeO.none _)
   | (with_reducible refine LeO.ite ?_ ?_)
   | (with_reducible refine LeO.bind ?_ (fun _ => ?_))
   | exact ih0 _ _ _ _ _
   | exact chicanelaw15_alive.mono _
   | exact chicaneref15_Join.mono _ _
   | exact chicaneref15_Plain.mono _ _
   | exact words_Plain.mono _ _
   | exact LeO.none _
   | refine LeO.ite ?_ ?_
   | refine LeO.bind ?_ (fun _ => ?_)
theorem chicanelaw15_WordsJoins.mono : ∀ a0 k, LeO (chicanelaw15_WordsJoins.f k a0) (chicanelaw15_WordsJoins.f (k + 1) a0) := by
 intro a0 k
 have ih0 := chicanelaw15_WordsJoins.mono_l k
 unfold chicanelaw15_WordsJoins.f
 repeat' first
   | (with_reducible exact ih0 _ _ _ _ _)
   | (with_reducible exact chicanelaw15_alive.mono _)
   | (with_reducible exact chicaneref15_Join.mono _ _)
   | (with_reducible exact chicaneref15_Plain.mono _ _)
   | (with_reducible exact words_Plain.mono _ _)
   | (with_reducible exact LeO.refl _)
   | (with_reducible exact LeO.none _)
   | (with_reducible refine LeO.ite ?_ ?_)
   | (with_reducible refine LeO.bind ?_ (fun _ => ?_))
   | exact ih0 _ _ _ _ _
   | exact chicanelaw15_alive.mono _
   | exact chicaneref15_Join.mono _ _
   | exact chicaneref15_Plain.mono _ _
   | exact words_Plain.mono _ _
   | exact LeO.none _
   | refine LeO.ite ?_ ?_
   | refine LeO.bind ?_ (fun _ => ?_)
set_option maxHeartbeats 8000000 in
set_option maxRecDepth 100000 in
theorem chicanelaw15_WordsJoins.calls (k : Nat) (A0 : Option Addr) (c0 : Nat) (l0 : List ByteArray) (r : Bool) (w : World) (hr0 : Kd.C Kd.string w A0 l0.length l0) (hc0 : l0.length ≤ c0) (h : chicanelaw15_WordsJoins.f k l0 = some r) :
  Calls Tryd.prog 3 #[.slice A0 l0.length c0] w fun e w' => e = .returned (.bool r) ∧ Below w.heap.size w w' := by
 have HR0 := Aside0.mk hr0
 have HC0 := Aside0.mk hc0
 clear hr0 hc0
 have HB := Aside0.mk (Below.refl w.heap.size w)
 have H : (chicanelaw15_WordsJoins.l0 k l0 0 l0 (l0.length : Int) 0) = some r := h
 clear h
 have H' := Aside0.mk H
 clear H
 go_enter Tryd.func3, Tryd.ntmps3
 go_wp2
 go_loopg [3, 8] k (fun kq v3 v8 w' => ∃ (x3_1 : Int) (x8_1 : Int), v3 = .int .i64 x3_1 ∧ v8 = .int .i64 x8_1 ∧ Aside0 (chicanelaw15_WordsJoins.l0 kq l0 x3_1 l0 (l0.length : Int) x8_1 = some r) ∧ Aside0 (kq ≤ k) ∧ Aside0 (Below w.heap.size w w'))
 case atStart => exact ⟨(0), (0), (by first | rfl | (simp; done) | (simp [*]; done)), (by first | rfl | (simp; done) | (simp [*]; done)), H', ⟨Nat.le_refl _⟩, ⟨by repeat (first | (with_reducible first | exact HB.out | apply below_alloc | apply pw_below_drewN | apply below_drew1) | exact HB.out)⟩⟩
 case round =>
  clear H'
  obtain ⟨x3_1, x8_1, rfl, rfl, HA, HK1, HB⟩ := hrel
  cases gk with
  | zero => exact absurd HA.out (by simp [chicanelaw15_WordsJoins.l0])
  | succ k1 =>
   have H := HA.out
   clear HA
   simp only [chicanelaw15_WordsJoins.l0] at H
   by_cases c2 : x8_1 < (l0.length : Int)
   ·rw [if_pos c2] at H
    have c2b0 : decide (x8_1 < (l0.length : Int)) = true := decide_eq_true c2
    clear c2
    by_cases c3 : 0 ≤ x8_1
    ·rw [if_pos c3] at H
     have c3b0 : decide (0 ≤ x8_1) = true := decide_eq_true c3
     clear c3
     by_cases c4 : x8_1 < (l0.length : Int)
     ·rw [if_pos c4] at H
      have c4b0 : decide (x8_1 < (l0.length : Int)) = true := decide_eq_true c4
      clear c4
      replace H := Option.bind_eq_some_iff.mp H
      obtain ⟨t124, A50, H⟩ := H
      replace H : ((chicaneref15_Plain.f k1 (rdOf ByteArray.empty l0 x8_1)).bind fun t125 => (if (t124 != t125) = true then (some false) else (chicanelaw15_WordsJoins.l0 k1 l0 (wrap64 (x3_1 + ((rdOf ByteArray.empty l0 x8_1).size : Int))) l0 (l0.length : Int) (wrap64 (x8_1 + 1))))) = some r := H
      have A5 := Aside0.mk A50
      clear A50
      replace H := Option.bind_eq_some_iff.mp H
      obtain ⟨t125, A60, H⟩ := H
      replace H : (if (t124 != t125) = true then (some false) else (chicanelaw15_WordsJoins.l0 k1 l0 (wrap64 (x3_1 + ((rdOf ByteArray.empty l0 x8_1).size : Int))) l0 (l0.length : Int) (wrap64 (x8_1 + 1)))) = some r := H
      have A6 := Aside0.mk A60
      clear A60
      by_cases c7 : (t124 != t125) = true
      ·rw [if_pos c7] at H
       have c7b0 : (t124 != t125) = true := c7
       (try (have c7b1 : decide (t124 = t125) = false := by simpa using c7))
       (try (have c7b2 : (t124 == t125) = false := by simpa using c7))
       (try (have c7b3 : ¬ (t124 = t125) := by simpa using c7))
       clear c7
       obtain rfl := Option.some.inj H
       have p123 : 0 ≤ (x8_1 : Int) := of_decide_eq_true (by first | (with_reducible assumption) | assumption)
       have q123 : x8_1 < (l0.length : Int) := of_decide_eq_true (by first | (with_reducible assumption) | assumption)
       obtain ⟨ad123, e123, hx123_0⟩ := Kd.at_string HR0.out x8_1 p123 q123
       cases e123
       replace hx123_0 := (HB.out.cell (World.block_lt_of_cell? w _ hx123_0)).trans hx123_0
       replace p123 := eq_true p123
       replace q123 := eq_true q123
       go_wp2_with (first | ((with_reducible refine gate_callee (f := 8) rfl ?_); refine goesL_ (some 17) rfl rfl Tryd.func8 (by kernel_rfl) rfl #[.string (rdOf ByteArray.empty l0 x8_1)] rfl (by (try simp only [List.map_toArray, List.map_cons, List.map_nil]); first | done | rfl | (simp only [List.length_drop, List.length_take]; rfl)) ?_; (with_reducible refine (words_Plain.calls k1 (rdOf ByteArray.empty l0 x8_1) t124 _ A5.out).mono ?_); rintro e w' ⟨rfl, ⟨nd, rfl⟩⟩; refine ⟨_, rfl, ?_⟩) | ((with_reducible refine gate_callee (f := 9) rfl ?_); refine goesL_ (some 19) rfl rfl Tryd.func9 (by kernel_rfl) rfl #[.string (rdOf ByteArray.empty l0 x8_1)] rfl (by (try simp only [List.map_toArray, List.map_cons, List.map_nil]); first | done | rfl | (simp only [List.length_drop, List.length_take]; rfl)) ?_; (with_reducible refine (chicaneref15_Plain.calls k1 (rdOf ByteArray.empty l0 x8_1) t125 _ A6.out).mono ?_); rintro e w' ⟨rfl, ⟨nd, rfl⟩⟩; refine ⟨_, rfl, ?_⟩))
       go_ret
       exact ⟨by first | rfl | (simp [errW_none, errW_some] <;> rfl) | (simp [*, errW_none, errW_some] <;> rfl), by repeat (first | (with_reducible first | exact HB.out | apply below_alloc | apply pw_below_drewN | apply below_drew1) | exact HB.out)⟩
      ·rw [if_neg c7] at H
       have c7b0 : (t124 != t125) = false := by simpa using c7
       (try (have c7b1 : decide (t124 = t125) = true := by simpa using c7))
       (try (have c7b2 : (t124 == t125) = true := by simpa using c7))
       clear c7
       have H' := Aside0.mk H
       clear H
       have p123 : 0 ≤ (x8_1 : Int) := of_decide_eq_true (by first | (with_reducible assumption) | assumption)
       have q123 : x8_1 < (l0.length : Int) := of_decide_eq_true (by first | (with_reducible assumption) | assumption)
       obtain ⟨ad123, e123, hx123_0⟩ := Kd.at_string HR0.out x8_1 p123 q123
       cases e123
       replace hx123_0 := (HB.out.cell (World.block_lt_of_cell? w _ hx123_0)).trans hx123_0
       replace p123 := eq_true p123
       replace q123 := eq_true q123
       go_wp2_with (first | ((with_reducible refine gate_callee (f := 8) rfl ?_); refine goesL_ (some 17) rfl rfl Tryd.func8 (by kernel_rfl) rfl #[.string (rdOf ByteArray.empty l0 x8_1)] rfl (by (try simp only [List.map_toArray, List.map_cons, List.map_nil]); first | done | rfl | (simp only [List.length_drop, List.length_take]; rfl)) ?_; (with_reducible refine (words_Plain.calls k1 (rdOf ByteArray.empty l0 x8_1) t124 _ A5.out).mono ?_); rintro e w' ⟨rfl, ⟨nd, rfl⟩⟩; refine ⟨_, rfl, ?_⟩) | ((with_reducible refine gate_callee (f := 9) rfl ?_); refine goesL_ (some 19) rfl rfl Tryd.func9 (by kernel_rfl) rfl #[.string (rdOf ByteArray.empty l0 x8_1)] rfl (by (try simp only [List.map_toArray, List.map_cons, List.map_nil]); first | done | rfl | (simp only [List.length_drop, List.length_take]; rfl)) ?_; (with_reducible refine (chicaneref15_Plain.calls k1 (rdOf ByteArray.empty l0 x8_1) t125 _ A6.out).mono ?_); rintro e w' ⟨rfl, ⟨nd, rfl⟩⟩; refine ⟨_, rfl, ?_⟩))
       go_roundg k1
       case measure => have := HK1.out; omega
       case rel => exact ⟨(wrap64 (x3_1 + ((rdOf ByteArray.empty l0 x8_1).size : Int))), (wrap64 (x8_1 + 1)), (by first | rfl | (simp; done) | (simp [*]; done)), (by first | rfl | (simp; done) | (simp [*]; done)), H', ⟨by have := HK1.out; omega⟩, ⟨by repeat (first | (with_reducible first | exact HB.out | apply below_alloc | apply pw_below_drewN | apply below_drew1) | exact HB.out)⟩⟩
     ·rw [if_neg c4] at H
      exact absurd H (by simp)
    ·rw [if_neg c3] at H
     exact absurd H (by simp)
   ·rw [if_neg c2] at H
    have c2b0 : decide (x8_1 < (l0.length : Int)) = false := decide_eq_false c2
    clear c2
    replace H := Option.bind_eq_some_iff.mp H
    obtain ⟨t120, A80, H⟩ := H
    replace H : (if t120 = true then (if x3_1 > 2000 then (some true) else ((words_Join.f l0).bind fun t121 => ((chicaneref15_Join.f k1 l0).bind fun t122 => (some (t121.toList == t122.toList))))) else (some false)) = some r := H
    have A8 := Aside0.mk A80
    clear A80
    by_cases c9 : t120 = true
    ·subst c9
     have H1 : (if x3_1 > 2000 then (some true) else ((words_Join.f l0).bind fun t121 => ((chicaneref15_Join.f k1 l0).bind fun t122 => (some (t121.toList == t122.toList))))) = some r := by rw [if_pos rfl] at H; exact H
     clear H
     have H := H1
     clear H1
     by_cases c10 : x3_1 > 2000
     ·rw [if_pos c10] at H
      have c10b0 : decide (2000 < x3_1) = true := decide_eq_true c10
      clear c10
      obtain rfl := Option.some.inj H
      go_wp2_with (first | ((with_reducible refine gate_callee (f := 10) rfl ?_); refine goesL_ (some 22) rfl rfl Tryd.func10 (by kernel_rfl) rfl #[] rfl (by (try simp only [List.map_toArray, List.map_cons, List.map_nil]); first | done | rfl | (simp only [List.length_drop, List.length_take]; rfl)) ?_; (with_reducible refine (chicanelaw15_alive.calls k1  true _ A8.out).mono ?_); rintro e w11 ⟨rfl, hb⟩; refine ⟨_, rfl, ?_⟩; have n0_ := Aside0.mk (below_step (by repeat (first | (with_reducible first | exact HB.out | apply below_alloc | apply pw_below_drewN | apply below_drew1) | exact HB.out)) hb); clear HB; have HB := n0_; clear n0_; (try clear hb); (try clear hb2); (try clear hk); (try clear hi)))
      go_ret
      exact ⟨by first | rfl | (simp [errW_none, errW_some] <;> rfl) | (simp [*, errW_none, errW_some] <;> rfl), by repeat (first | (with_reducible first | exact HB.out | apply below_alloc | apply pw_below_drewN | apply below_drew1) | exact HB.out)⟩
     ·rw [if_neg c10] at H
      have c10b0 : decide (2000 < x3_1) = false := decide_eq_false c10
      clear c10
      replace H := Option.bind_eq_some_iff.mp H
      obtain ⟨t121, A120, H⟩ := H
      replace H : ((chicaneref15_Join.f k1 l0).bind fun t122 => (some (t121.toList == t122.toList))) = some r := H
      have A12 := Aside0.mk A120
      clear A120
      replace H := Option.bind_eq_some_iff.mp H
      obtain ⟨t122, A130, H⟩ := H
      replace H : (some (t121.toList == t122.toList)) = some r := H
      have A13 := Aside0.mk A130
      clear A130
      obtain rfl := Option.some.inj H
      go_wp2_with (first | ((with_reducible refine gate_callee (f := 10) rfl ?_); refine goesL_ (some 22) rfl rfl Tryd.func10 (by kernel_rfl) rfl #[] rfl (by (try simp only [List.map_toArray, List.map_cons, List.map_nil]); first | done | rfl | (simp only [List.length_drop, List.length_take]; rfl)) ?_; (with_reducible refine (chicanelaw15_alive.calls k1  true _ A8.out).mono ?_); rintro e w14 ⟨rfl, hb⟩; refine ⟨_, rfl, ?_⟩; have n0_ := Aside0.mk (below_step (by repeat (first | (with_reducible first | exact HB.out | apply below_alloc | apply pw_below_drewN | apply below_drew1) | exact HB.out)) hb); clear HB; have HB := n0_; clear n0_; (try clear hb); (try clear hb2); (try clear hk); (try clear hi)) | (go_at_call 11; (with_reducible refine (words_Join.calls _ _ l0 t121 _ ?side1 ?side2 A12.out).mono ?_); (case side1 => repeat (first | exact (Kd.C_below HR0.out HB.out) | (with_reducible refine Kd.C_alloc ?_ _) | (with_reducible refine Kd.C_drewN ?_ _) | (with_reducible refine Kd.C_drew ?_))); (case side2 => exact HC0.out); rintro e w15 ⟨rfl, hb⟩; have n0_ := Aside0.mk (below_step (by repeat (first | (with_reducible first | exact HB.out | apply below_alloc | apply pw_below_drewN | apply below_drew1) | exact HB.out)) hb); clear HB; have HB := n0_; clear n0_; (try clear hb); (try clear hb2); (try clear hk); (try clear hi)) | (go_at_call 12; (with_reducible refine (chicaneref15_Join.calls k1 _ _ l0 t122 _ ?side1 ?side2 A13.out).mono ?_); (case side1 => repeat (first | exact (Kd.C_below HR0.out HB.out) | (with_reducible refine Kd.C_alloc ?_ _) | (with_reducible refine Kd.C_drewN ?_ _) | (with_reducible refine Kd.C_drew ?_))); (case side2 => exact HC0.out); rintro e w16 ⟨rfl, hb⟩; have n0_ := Aside0.mk (below_step (by repeat (first | (with_reducible first | exact HB.out | apply below_alloc | apply pw_below_drewN | apply below_drew1) | exact HB.out)) hb); clear HB; have HB := n0_; clear n0_; (try clear hb); (try clear hb2); (try clear hk); (try clear hi)))
      go_ret
      exact ⟨by first | rfl | (simp [errW_none, errW_some] <;> rfl) | (simp [*, errW_none, errW_some] <;> rfl), by repeat (first | (with_reducible first | exact HB.out | apply below_alloc | apply pw_below_drewN | apply below_drew1) | exact HB.out)⟩
    ·replace c9 := Bool.eq_false_iff.mpr c9
     subst c9
     have H1 : (some false) = some r := by rw [if_neg (show ¬ (false = true) by decide)] at H; exact H
     clear H
     have H := H1
     clear H1
     obtain rfl := Option.some.inj H
     go_wp2_with (first | ((with_reducible refine gate_callee (f := 10) rfl ?_); refine goesL_ (some 22) rfl rfl Tryd.func10 (by kernel_rfl) rfl #[] rfl (by (try simp only [List.map_toArray, List.map_cons, List.map_nil]); first | done | rfl | (simp only [List.length_drop, List.length_take]; rfl)) ?_; (with_reducible refine (chicanelaw15_alive.calls k1  false _ A8.out).mono ?_); rintro e w17 ⟨rfl, hb⟩; refine ⟨_, rfl, ?_⟩; have n0_ := Aside0.mk (below_step (by repeat (first | (with_reducible first | exact HB.out | apply below_alloc | apply pw_below_drewN | apply below_drew1) | exact HB.out)) hb); clear HB; have HB := n0_; clear n0_; (try clear hb); (try clear hb2); (try clear hk); (try clear hi)))
     go_ret
     exact ⟨by first | rfl | (simp [errW_none, errW_some] <;> rfl) | (simp [*, errW_none, errW_some] <;> rfl), by repeat (first | (with_reducible first | exact HB.out | apply below_alloc | apply pw_below_drewN | apply below_drew1) | exact HB.out)⟩
def chicanelaw15_WordsOnce.f (k : Nat) (a0 : ByteArray) : Option (Bool) := if (a0.size : Int) > 1000 then ((chicanelaw15_alive.f k).bind fun t126 => (some t126)) else ((words_Split.f a0).bind fun bt127 => (if bt127.2.2 = 0 then ((words_Join.f bt127.1).bind fun t133 => ((words_Split.f t133).bind fun bt134 => ((chicanelaw15_alive.f k).bind fun t139 => (if t139 = true then (if t133.toList = ([] : List UInt8) then (if (bt127.1.length : Int) > 0 then (some true) else (if bt134.2.2 = 0 then ((chicaneref15_Same.f k bt134.1 bt127.1).bind fun t140 => (some t140)) else (some false))) else (if bt134.2.2 = 0 then ((chicaneref15_Same.f k bt134.1 bt127.1).bind fun t141 => (some t141)) else (some false))) else (some false))))) else ((chicanelaw15_alive.f k).bind fun t132 => (if t132 = true then (some ((bt127.1.length : Int) == 0)) else (some false)))))
theorem chicanelaw15_WordsOnce.mono : ∀ a0 k, LeO (chicanelaw15_WordsOnce.f k a0) (chicanelaw15_WordsOnce.f (k + 1) a0) := by
 intro a0 k
 unfold chicanelaw15_WordsOnce.f
 repeat' first
   | (with_reducible exact chicanelaw15_alive.mono _)
   | (with_reducible exact chicaneref15_Same.mono _ _ _)
   | (with_reducible exact LeO.refl _)
   | (with_reducible exact LeO.none _)
   | (with_reducible refine LeO.ite ?_ ?_)
   | (with_reducible refine LeO.bind ?_ (fun _ => ?_))
   | exact chicanelaw15_alive.mono _
   | exact chicaneref15_Same.mono _ _ _
   | exact LeO.none _
   | refine LeO.ite ?_ ?_
   | refine LeO.bind ?_ (fun _ => ?_)
def chicanelaw15_WordsRest.l0 : Nat → ByteArray → List ByteArray → List ByteArray → Int → Int → Int → Option (Bool)
 | 0, _, _, _, _, _, _ => none
 | k + 1, x1, x5, x8, x10, x40, x41 => if x41 < x40 then (if 0 ≤ x41 then (if x41 < (x1.size : Int) then (if (bt x1 x41) < 32 then (if (bt x1 x41) = 9 then (chicanelaw15_WordsRest.l0 k x1 x5 x8 x10 x40 (wrap64 (x41 + 1))) else ((chicanelaw15_alive.f k).bind fun t154 => (if t154 = true then (some (x10 == 150)) else (some false)))) else (if (bt x1 x41) > 126 then (if (bt x1 x41) = 9 then (chicanelaw15_WordsRest.l0 k x1 x5 x8 x10 x40 (wrap64 (x41 + 1))) else ((chicanelaw15_alive.f k).bind fun t155 => (if t155 = true then (some (x10 == 150)) else (some false)))) else (chicanelaw15_WordsRest.l0 k x1 x5 x8 x10 x40 (wrap64 (x41 + 1))))) else (none)) else (none)) else ((chicanelaw15_alive.f k).bind fun t156 => (if t156 = true then (if x10 = 0 then ((chicaneref15_Same.f k x8 x5).bind fun t157 => (some t157)) else (some false)) else (some false)))
def chicanelaw15_WordsRest.f (k : Nat) (a0 : ByteArray) (a1 : ByteArray) : Option (Bool) := if (wrap64 ((wrap64 ((a0.size : Int) + (a1.size : Int))) + 2)) > 256 then ((chicanelaw15_alive.f k).bind fun t142 => (some t142)) else ((words_Split.f a0).bind fun bt143 => (if bt143.2.2 = 0 then (if a0.size + 2 ≤ 9223372036854775807 then (if (a0 ++ (⟨#[32, 35]⟩ : ByteArray)).size + a1.size ≤ 9223372036854775807 then ((words_Split.f ((a0 ++ (⟨#[32, 35]⟩ : ByteArray)) ++ a1)).bind fun bt149 => (chicanelaw15_WordsRest.l0 k a1 bt143.1 bt149.1 bt149.2.2 (a1.size : Int) 0)) else (none)) else (none)) else ((chicanelaw15_alive.f k).bind fun t148 => (some t148))))
theorem chicanelaw15_WordsRest.mono_l : ∀ k, (∀ y0 y1 y2 y3 y4 y5, LeO (chicanelaw15_WordsRest.l0 k y0 y1 y2 y3 y4 y5) (chicanelaw15_WordsRest.l0 (k + 1) y0 y1 y2 y3 y4 y5))
 | 0 => fun _ _ _ _ _ _ r h => by simp [chicanelaw15_WordsRest.l0] at h
 | k + 1 => by
  have ih0 := chicanelaw15_WordsRest.mono_l k
  ·intro y0 y1 y2 y3 y4 y5
   unfold chicanelaw15_WordsRest.l0
   repeat' first
   | (with_reducible exact ih0 _ _ _ _ _ _)
   | (with_reducible exact chicanelaw15_alive.mono _)
   | (with_reducible exact chicaneref15_Same.mono _ _ _)
   | (with_reducible exact LeO.refl _)
   | (with_reducible exact LeO.none _)
   | (with_reducible refine LeO.ite ?_ ?_)
   | (with_reducible refine LeO.bind ?_ (fun _ => ?_))
   | exact ih0 _ _ _ _ _ _
   | exact chicanelaw15_alive.mono _
   | exact chicaneref15_Same.mono _ _ _
   | exact LeO.none _
   | refine LeO.ite ?_ ?_
   | refine LeO.bind ?_ (fun _ => ?_)
theorem chicanelaw15_WordsRest.mono : ∀ a0 a1 k, LeO (chicanelaw15_WordsRest.f k a0 a1) (chicanelaw15_WordsRest.f (k + 1) a0 a1) := by
 intro a0 a1 k
 have ih0 := chicanelaw15_WordsRest.mono_l k
 unfold chicanelaw15_WordsRest.f
 repeat' first
   | (with_reducible exact ih0 _ _ _ _ _ _)
   | (with_reducible exact chicanelaw15_alive.mono _)
   | (with_reducible exact chicaneref15_Same.mono _ _ _)
   | (with_reducible exact LeO.refl _)
   | (with_reducible exact LeO.none _)
   | (with_reducible refine LeO.ite ?_ ?_)
   | (with_reducible refine LeO.bind ?_ (fun _ => ?_))
   | exact ih0 _ _ _ _ _ _
   | exact chicanelaw15_alive.mono _
   | exact chicaneref15_Same.mono _ _ _
   | exact LeO.none _
   | refine LeO.ite ?_ ?_
   | refine LeO.bind ?_ (fun _ => ?_)
end Go.Proofs.YtbfeokfninedcaaDoor.PWrdB
set_option linter.unusedVariables false
set_option linter.unusedSimpArgs false
namespace Go.Proofs.YtbfeokfninedcaaDoor.Ext
open Go.RowKit Go.Proofs.YtbfeokfninedcaaDoorW.PrintWords Go.Proofs.YtbfeokfninedcaaDoorW.PrintLast Go.Proofs.YtbfeokfninedcaaDoor.PWrdA Go.Proofs.YtbfeokfninedcaaDoor.PWrdB
set_option maxRecDepth 100000 in
theorem alive100 : chicanelaw15_alive.f 100 = some true := by kernel_rfl
theorem alive15 (k : Nat) (hk : 100 ≤ k) : chicanelaw15_alive.f k = some true := at_rounds chicanelaw15_alive.mono hk alive100
theorem w64n (k : Nat) (h : k < 9223372036854775807) : wrap64 ((k : Int) + 1) = ((k + 1 : Nat) : Int) := by unfold wrap64; omega
theorem ba_size (l : List UInt8) : (ba l).size = l.length := by show l.toArray.size = _; rw [List.size_toArray]
theorem bl_len (a : ByteArray) : (bl a).length = a.size := by simp [bl]
end Go.Proofs.YtbfeokfninedcaaDoor.Ext
set_option linter.unusedVariables false
set_option linter.unusedSimpArgs false
namespace Go.Proofs.YtbfeokfninedcaaDoor.Ext
open Go.RowKit Go.Proofs.YtbfeokfninedcaaDoorW.PrintWords Go.Proofs.YtbfeokfninedcaaDoorW.PrintLast Go.Proofs.YtbfeokfninedcaaDoor.PWrdA Go.Proofs.YtbfeokfninedcaaDoor.PWrdB
theorem pb_33 (c : UInt8) : WP.pb c = (!decide (c.toNat < 33) && !decide (126 < c.toNat) && !decide (c.toNat = 34) && !decide (c.toNat = 92)) := by
  rw [Bool.eq_iff_iff]
  simp [WP.pb, WP.may, WP.blk]
  omega
theorem rplain_l0 (s : ByteArray) (hs : s.size ≤ 9223372036854775806) : ∀ (f k : Nat), s.size - k < f → k ≤ s.size → chicaneref15_Plain.l0 f s (k : Int) = some (((bl s).drop k).all WP.pb) := by
  intro f
  induction f with
  | zero => intro k h; omega
  | succ f ih =>
    intro k h hk
    unfold chicaneref15_Plain.l0
    by_cases hl : k < s.size
    · obtain ⟨c, hc⟩ : ∃ c, s[k] = c := ⟨_, rfl⟩
      have hd : (bl s).drop k = c :: (bl s).drop (k + 1) := by unfold bl; rw [drop_at s k hl, hc]
      rw [if_pos (by omega), if_pos (by omega), bt_nat s k hl, hc, hd, List.all_cons, w64n k (by omega), pb_33]
      by_cases h1 : c.toNat < 33
      · rw [if_pos (by omega)]; simp [h1]
      rw [if_neg (by omega)]
      by_cases h2 : 126 < c.toNat
      · rw [if_pos (by omega)]; simp [h2]
      rw [if_neg (by omega)]
      by_cases h3 : c.toNat = 34
      · rw [if_pos (by omega)]; simp [h3]
      rw [if_neg (by omega)]
      by_cases h4 : c.toNat = 92
      · rw [if_pos (by omega)]; simp [h4]
      rw [if_neg (by omega), ih (k + 1) (by omega) (by omega)]
      simp [h1, h2, h3, h4]
    · rw [if_neg (by omega)]
      have hd : (bl s).drop k = [] := by unfold bl; rw [drop_end s k (by omega)]
      rw [hd]; rfl
theorem rplain_j0 (g : Nat) (s : ByteArray) (b : Bool) : chicaneref15_Plain.j0 (g + 1) s b = if b = true then some false else chicaneref15_Plain.l0 g s 0 := by rw [chicaneref15_Plain.j0]
theorem rplain_is (s : ByteArray) (hs : s.size ≤ 9223372036854775806) (f : Nat) (hf : s.size + 1 < f) : chicaneref15_Plain.f f s = some (WP.plain (bl s)) := by
  obtain ⟨g, rfl⟩ : ∃ g, f = g + 1 := ⟨f - 1, by omega⟩
  unfold chicaneref15_Plain.f
  rw [toList_data]
  have hl := rplain_l0 s hs g 0 (by omega) (Nat.zero_le _)
  rw [show ((0 : Nat) : Int) = 0 from rfl, List.drop_zero] at hl
  cases hd : s.data.toList with
  | nil =>
    rw [if_pos rfl, rplain_j0, if_pos rfl]
    unfold bl
    rw [hd]; rfl
  | cons c r =>
    have h0 : 0 < s.size := by have := congrArg List.length hd; simp at this; omega
    have hc : s[0] = c := by
      have := drop_at s 0 h0
      rw [List.drop_zero, hd] at this
      exact (List.cons.inj this).1.symm
    rw [if_neg (by simp), if_pos (by omega), show (0 : Int) = ((0 : Nat) : Int) from rfl, bt_nat s 0 h0, hc]
    have hbl : bl s = c :: r := hd
    rw [hbl] at hl ⊢
    have e : ((c.toNat : Int) == 35) = decide (c.toNat = 35) := by rw [Bool.eq_iff_iff]; simp; omega
    rw [e, rplain_j0]
    by_cases h35 : c.toNat = 35
    · rw [if_pos (by simp [h35])]; simp [WP.plain, h35]
    · rw [if_neg (by simp [h35])]
      rw [hl]
      simp only [WP.plain]
      simp [h35]
theorem rmay_f (c : UInt8) : chicaneref15_may.f (c.toNat : Int) = some (WP.may c) := may_f c
theorem son_one (c : UInt8) : strOfNums [(c.toNat : Int)] = ba [c] := str_ba [c]
theorem son_92 : strOfNums [(92 : Int)] = ba [92] := str_ba [92]
theorem son_34 : strOfNums [(34 : Int)] = ba [34] := str_ba [34]
theorem ba_app (a b : List UInt8) : ba a ++ ba b = ba (a ++ b) := by
  apply ByteArray.ext
  apply Array.toList_inj.1
  simp [ba]
theorem rd_at (l : List ByteArray) (i : Nat) (h : i < l.length) : rdOf ByteArray.empty l (i : Int) = l[i] := by
  unfold rdOf
  simp [List.getD_eq_getElem?_getD, h]
theorem plain_cn (l : List UInt8) (h : WP.plain l = true) : WP.cn l = 0 := by
  unfold WP.cn
  rw [List.countP_eq_zero]
  intro c hc
  have : l.all WP.pb = true := by
    cases l with
    | nil => cases hc
    | cons a r => simp only [WP.plain, Bool.and_eq_true] at h; exact h.2
  have := List.all_eq_true.1 this c hc
  obtain ⟨_, _, h3, h4⟩ := (WP.pb_iff c).1 this
  simp [WP.sp, h3, h4]
theorem rjoin_l1 (L : List ByteArray) (i : Nat) (hi : i < L.length) (x : ByteArray) (hx : L[i] = x) (hxs : x.size ≤ 2000) (q : List UInt8) (hq : q.length ≤ 1) (R : ByteArray) (K : Nat)
    (hi16 : i ≤ 16) (acc0 : List UInt8) (hnext : (bl x).all WP.may = true → ∀ k', K ≤ k' → chicaneref15_Join.l0 k' L (ba (acc0 ++ WP.es (bl x) ++ q)) ((i + 1 : Nat) : Int) = some R) (hbad : (bl x).all WP.may = false → R = ⟨#[]⟩) (h0 : acc0.length ≤ 1000000) :
    ∀ (f k : Nat), K + (x.size - k) < f → k ≤ x.size → ((bl x).take k).all WP.may = true → chicaneref15_Join.l1 f L (ba (acc0 ++ WP.es ((bl x).take k))) (i : Int) (ba q) (k : Int) = some R := by
  intro f
  induction f with
  | zero => intro k h; omega
  | succ f ih =>
    intro k hf hk ham
    unfold chicaneref15_Join.l1
    rw [if_pos (by omega), if_pos (by omega), rd_at L i hi, hx]
    have hel : (WP.es ((bl x).take k)).length ≤ 4000 := by
      have h1 := WP.es_len ((bl x).take k)
      have h2 := WP.cn_le ((bl x).take k)
      rw [List.length_take, bl_len] at h2
      rw [List.length_take, bl_len] at h1
      omega
    by_cases hl : k < x.size
    · obtain ⟨c, hc⟩ : ∃ c, x[k] = c := ⟨_, rfl⟩
      have ht : (bl x).take (k + 1) = (bl x).take k ++ [c] := by unfold bl; rw [take_snoc_b x k hl, hc]
      have hes : WP.es ((bl x).take (k + 1)) = WP.es ((bl x).take k) ++ (if WP.sp c = true then [92, c] else [c]) := by rw [ht, WP.es_append, WP.es_one]
      rw [if_pos (by omega), if_pos (by omega), bt_nat x k hl, hc, rmay_f, w64n k (by omega)]
      simp only [Option.bind_some]
      by_cases hm : WP.may c = true
      · rw [if_pos hm]
        have hstep := ih (k + 1) (by omega) (by omega) (by rw [ht, List.all_append, ham]; simp [hm])
        rw [hes] at hstep
        have hb1 : ∀ l : List UInt8, l.length ≤ 1 → (ba (acc0 ++ WP.es ((bl x).take k))).size + (ba l).size ≤ 9223372036854775807 := by
          intro l hl1; rw [ba_size, ba_size, List.length_append]; omega
        by_cases h34 : c.toNat = 34
        · have hs : WP.sp c = true := by simp [WP.sp, h34]
          rw [hs, if_pos rfl] at hstep
          rw [if_pos (by omega), son_92, if_pos (hb1 [92] (by simp)), son_one, ba_app, if_pos (by rw [ba_size, ba_size, List.length_append, List.length_append]; simp; omega), ba_app, List.append_assoc, List.append_assoc]
          exact hstep
        · rw [if_neg (by omega)]
          by_cases h92 : c.toNat = 92
          · have hs : WP.sp c = true := by simp [WP.sp, h92]
            rw [hs, if_pos rfl] at hstep
            rw [if_pos (by omega), son_92, if_pos (hb1 [92] (by simp)), son_one, ba_app, if_pos (by rw [ba_size, ba_size, List.length_append, List.length_append]; simp; omega), ba_app, List.append_assoc, List.append_assoc]
            exact hstep
          · have hs : WP.sp c = false := by simp [WP.sp, h34, h92]
            rw [hs, if_neg (by decide)] at hstep
            rw [if_neg (by omega), son_one, if_pos (hb1 [c] (by simp)), ba_app, List.append_assoc]
            exact hstep
      · rw [if_neg hm, hbad]
        rw [List.all_eq_false]
        exact ⟨c, by rw [← hc]; exact List.getElem_mem (l := x.data.toList) (by simpa using hl), by simpa using hm⟩
    · have hkE : k = x.size := by omega
      subst hkE
      have hta : (bl x).take x.size = bl x := take_all x
      rw [hta] at ham hel ⊢
      rw [if_neg (by omega), if_pos (by rw [ba_size, ba_size, List.length_append]; omega), ba_app, w64n i (by omega)]
      exact hnext ham f (by omega)
def rj : Nat → List (List UInt8) → List UInt8 → List UInt8
  | _, [], acc => if 256 < acc.length then [] else acc
  | i, s :: r, acc => if s.all WP.may = false then [] else rj (i + 1) r (acc ++ (if 0 < i then [32] else []) ++ WP.qt s)
def need : List (List UInt8) → Nat
  | [] => 1
  | s :: r => need r + s.length + 10
theorem need_cons (x : ByteArray) (r : List ByteArray) : need ((x :: r).map bl) = need (r.map bl) + x.size + 10 := by
  rw [List.map_cons, need, bl_len]
theorem rjoin_l0 (L : List ByteArray) (h16 : L.length ≤ 16) (hsz : ∀ x ∈ L, x.size ≤ 2000) : ∀ (d i : Nat) (acc : List UInt8), L.length - i = d → i ≤ L.length → acc.length ≤ i * 4003 → ∀ f, need ((L.drop i).map bl) + 3000 ≤ f →
    chicaneref15_Join.l0 f L (ba acc) (i : Int) = some (ba (rj i ((L.drop i).map bl) acc)) := by
  intro d
  induction d with
  | zero =>
    intro i acc hd hi hacc f hf
    obtain ⟨g, rfl⟩ : ∃ g, f = g + 1 := ⟨f - 1, by omega⟩
    unfold chicaneref15_Join.l0
    have hdr : L.drop i = [] := List.drop_eq_nil_of_le (by omega)
    rw [if_neg (by omega), hdr, ba_size]
    simp only [List.map_nil, rj]
    by_cases hb : 256 < acc.length
    · rw [if_pos (by omega), if_pos hb]; rfl
    · rw [if_neg (by omega), if_neg hb]
  | succ d ih =>
    intro i acc hd hi hacc f hf
    have hil : i < L.length := by omega
    obtain ⟨x, hx⟩ : ∃ x, L[i] = x := ⟨_, rfl⟩
    have hxs : x.size ≤ 2000 := hsz x (by rw [← hx]; exact List.getElem_mem hil)
    have hdr : L.drop i = x :: L.drop (i + 1) := by rw [List.drop_eq_getElem_cons hil, hx]
    have hneed : need ((L.drop i).map bl) = need ((L.drop (i + 1)).map bl) + x.size + 10 := by rw [hdr]; exact need_cons x _
    rw [hneed] at hf
    rw [hdr]
    simp only [List.map_cons, rj]
    obtain ⟨R, hR⟩ : ∃ R, R = ba (if (bl x).all WP.may = false then [] else rj (i + 1) ((L.drop (i + 1)).map bl) (acc ++ (if 0 < i then [32] else []) ++ WP.qt (bl x))) := ⟨_, rfl⟩
    rw [← hR]
    have hbad : (bl x).all WP.may = false → R = ⟨#[]⟩ := fun h => by rw [hR, if_pos h]; rfl
    have hgood : (bl x).all WP.may = true → ∀ Y : List UInt8, (if (bl x).all WP.may = false then [] else Y) = Y := fun hm Y => if_neg (by simp [hm])
    have main : ∀ acc1 : List UInt8, acc1 = acc ++ (if 0 < i then [32] else []) → ∀ f, need ((L.drop (i + 1)).map bl) + x.size + 3008 ≤ f → chicaneref15_Join.j1 f L (ba acc1) (i : Int) = some R := by
      intro acc1 ha1 f hf
      have hl1 : acc1.length ≤ i * 4003 + 1 := by
        rw [ha1, List.length_append]
        by_cases h0 : 0 < i
        · rw [if_pos h0, List.length_singleton]; exact Nat.succ_le_succ hacc
        · rw [if_neg h0, List.length_nil]; exact Nat.le_succ_of_le hacc
      obtain ⟨g, rfl⟩ : ∃ g, f = g + 1 := ⟨f - 1, by omega⟩
      unfold chicaneref15_Join.j1
      rw [if_pos (by omega), if_pos (by omega), rd_at L i hil, hx, rplain_is x (by omega) g (by omega)]
      simp only [Option.bind_some]
      have quote : ∀ q : List UInt8, q.length ≤ 1 → (q = if WP.plain (bl x) = true then [] else [34]) → ∀ f, need ((L.drop (i + 1)).map bl) + x.size + 3006 ≤ f → chicaneref15_Join.j2 f L (ba acc1) (i : Int) (ba q) = some R := by
        intro q hq hqe f hf
        obtain ⟨g, rfl⟩ : ∃ g, f = g + 1 := ⟨f - 1, by omega⟩
        unfold chicaneref15_Join.j2
        rw [if_pos (by rw [ba_size, ba_size]; omega), ba_app]
        have := rjoin_l1 L i hil x hx hxs q hq R (need ((L.drop (i + 1)).map bl) + 3000) (by omega) (acc1 ++ q) (fun hm k' hk' => by
          have hqt : acc1 ++ q ++ WP.es (bl x) ++ q = acc ++ (if 0 < i then [32] else []) ++ WP.qt (bl x) := by
            rw [← ha1, hqe]
            unfold WP.qt
            by_cases hp : WP.plain (bl x) = true
            · rw [if_pos hp, if_pos hp]
              have : WP.es (bl x) = bl x := WP.es_none _ (plain_cn _ hp)
              rw [this]; simp
            · rw [if_neg hp, if_neg hp]; simp
          rw [hqt, ih (i + 1) _ (by omega) (by omega) (by
            have h1 := qt_len (bl x)
            rw [bl_len] at h1
            rw [← ha1, List.length_append]
            omega) k' (by omega), hR, hgood hm]) hbad (by rw [List.length_append]; omega) g 0 (by omega) (Nat.zero_le _) (by simp)
        simpa [WP.es] using this
      by_cases hp : WP.plain (bl x) = true
      · rw [if_pos hp]
        exact quote [] (by simp) (by rw [if_pos hp]) g (by omega)
      · rw [if_neg hp, son_34]
        exact quote [34] (by simp) (by rw [if_neg hp]) g (by omega)
    obtain ⟨g, rfl⟩ : ∃ g, f = g + 1 := ⟨f - 1, by omega⟩
    unfold chicaneref15_Join.l0
    rw [if_pos (by omega)]
    by_cases h0 : 0 < i
    · rw [if_pos (by omega), if_pos (by rw [ba_size]; omega)]
      have : ba acc ++ (⟨#[32]⟩ : ByteArray) = ba (acc ++ [32]) := ba_app acc [32]
      rw [this]
      exact main _ (by rw [if_pos h0]) g (by omega)
    · rw [if_neg (by omega)]
      exact main acc (by rw [if_neg h0, List.append_nil]) g (by omega)
theorem rj_join (ws : List (List UInt8)) : ∀ (i : Nat) (acc : List UInt8), rj i ws acc = if ws.all (·.all WP.may) = false then [] else
    if 256 < (acc ++ (if 0 < i ∧ ws ≠ [] then [32] else []) ++ WP.sep (ws.map WP.qt)).length then [] else acc ++ (if 0 < i ∧ ws ≠ [] then [32] else []) ++ WP.sep (ws.map WP.qt) := by
  induction ws with
  | nil => intro i acc; simp [rj, WP.sep]
  | cons s r ih =>
    intro i acc
    rw [rj]
    by_cases hm : s.all WP.may = false
    · rw [if_pos hm, if_pos (by rw [List.all_cons, hm]; rfl)]
    · have hm' : s.all WP.may = true := by simpa using hm
      rw [if_neg hm, ih (i + 1)]
      have e1 : (s :: r).all (·.all WP.may) = r.all (·.all WP.may) := by rw [List.all_cons, hm']; rfl
      rw [e1]
      have e2 : acc ++ (if 0 < i then [32] else []) ++ WP.qt s ++ (if 0 < i + 1 ∧ r ≠ [] then [32] else []) ++ WP.sep (r.map WP.qt) = acc ++ (if 0 < i ∧ s :: r ≠ [] then [32] else []) ++ WP.sep ((s :: r).map WP.qt) := by
        have h1 : (if 0 < i ∧ s :: r ≠ [] then ([32] : List UInt8) else []) = if 0 < i then [32] else [] := by
          by_cases h : 0 < i
          · rw [if_pos h, if_pos ⟨h, by simp⟩]
          · rw [if_neg h, if_neg (fun h2 => h h2.1)]
        rw [h1]
        cases r with
        | nil => simp [WP.sep]
        | cons b r => simp [WP.sep]
      rw [e2]
theorem rjoin_is (L : List ByteArray) (h : 16 < L.length ∨ ∀ x ∈ L, x.size ≤ 2000) (f : Nat) (hf : 100000 ≤ f) : chicaneref15_Join.f f L = some (ba (WP.join (L.map bl))) := by
  unfold chicaneref15_Join.f
  by_cases h16 : 16 < L.length
  · rw [if_pos (by omega)]
    unfold WP.join
    rw [if_pos (by simpa using h16)]
    rfl
  · have hsz := h.resolve_left h16
    rw [if_neg (by omega)]
    have hn : ∀ l : List ByteArray, (∀ x ∈ l, x.size ≤ 2000) → need (l.map bl) ≤ l.length * 2010 + 1 := by
      intro l
      induction l with
      | nil => intro _; decide
      | cons a r ih =>
        intro hl
        rw [need_cons, List.length_cons]
        have := ih (fun x hx => hl x (List.mem_cons_of_mem _ hx))
        have := hl a List.mem_cons_self
        omega
    have hn' := hn L hsz
    have := rjoin_l0 L (by omega) hsz L.length 0 [] (by omega) (Nat.zero_le _) (by simp) f (by rw [List.drop_zero]; omega)
    rw [List.drop_zero, rj_join] at this
    have e : (if 0 < 0 ∧ L.map bl ≠ [] then ([32] : List UInt8) else []) = [] := if_neg (fun h => by omega)
    rw [e, List.append_nil, List.nil_append] at this
    rw [show ba [] = (⟨#[]⟩ : ByteArray) from rfl, show ((0 : Nat) : Int) = 0 from rfl] at this
    rw [this]
    congr 1
    have e16 : ¬ 16 < (L.map bl).length := by simpa using h16
    unfold WP.join
    rw [if_neg e16]
def wsum : Int → List ByteArray → Int
  | n, [] => n
  | n, s :: r => wsum (wrap64 (n + (s.size : Int))) r
theorem wsum_small (l : List ByteArray) (hl : l.length ≤ 16) (hs : ∀ x ∈ l, x.size ≤ 140737488351232) : ∀ n : Nat, n ≤ 140737488351232 * (16 - l.length) → (n : Int) ≤ wsum n l ∧ ∀ x ∈ l, (x.size : Int) ≤ wsum n l := by
  induction l with
  | nil => intro n _; exact ⟨Int.le_refl _, fun x hx => by cases hx⟩
  | cons a r ih =>
    intro n hn
    have ha := hs a List.mem_cons_self
    rw [List.length_cons] at hl hn
    have e : wrap64 ((n : Int) + (a.size : Int)) = ((n + a.size : Nat) : Int) := by unfold wrap64; omega
    rw [wsum, e]
    have := ih (by omega) (fun x hx => hs x (List.mem_cons_of_mem _ hx)) (n + a.size) (by
      have : 16 - r.length = (16 - (r.length + 1)) + 1 := by omega
      rw [this, Nat.mul_add]
      omega)
    refine ⟨by omega, fun x hx => ?_⟩
    rw [List.mem_cons] at hx
    rcases hx with rfl | hx
    · omega
    · exact this.2 x hx
theorem joins_l0 (L : List ByteArray) (hL : L.length ≤ 140737488351232) (hs : ∀ x ∈ L, x.size ≤ 140737488351232) (M : Nat) (hM : ∀ x ∈ L, x.size ≤ M) : ∀ (d i : Nat) (n : Int), L.length - i = d → i ≤ L.length →
    wsum 0 L = wsum n (L.drop i) → ∀ f, d + M + 200000 ≤ f → chicanelaw15_WordsJoins.l0 f L n L (L.length : Int) (i : Int) = some true := by
  intro d
  induction d with
  | zero =>
    intro i n hd hi hw f hf
    obtain ⟨g, rfl⟩ : ∃ g, f = g + 1 := ⟨f - 1, by omega⟩
    unfold chicanelaw15_WordsJoins.l0
    rw [List.drop_eq_nil_of_le (by omega)] at hw
    rw [if_neg (by omega), alive15 g (by omega)]
    simp only [Option.bind_some, if_true]
    by_cases hb : n > 2000
    · rw [if_pos hb]
    · rw [if_neg hb]
      have hc : 16 < L.length ∨ ∀ x ∈ L, x.size ≤ 2000 := by
        by_cases h16 : 16 < L.length
        · exact .inl h16
        · refine .inr fun x hx => ?_
          have h1 := (wsum_small L (by omega) hs 0 (Nat.zero_le _)).2 x hx
          rw [show ((0 : Nat) : Int) = 0 from rfl, hw] at h1
          simp only [wsum] at h1
          omega
      have hj : words_Join.f L = some (ba (WP.join (L.map bl))) := by
        unfold words_Join.f
        rw [if_pos]
        rcases hc with hc | hc
        · exact .inl hc
        · exact .inr (List.all_eq_true.2 fun x hx => by simpa using hc x hx)
      rw [hj, rjoin_is L hc g (by omega)]
      simp
  | succ d ih =>
    intro i n hd hi hw f hf
    have hil : i < L.length := by omega
    obtain ⟨g, rfl⟩ : ∃ g, f = g + 1 := ⟨f - 1, by omega⟩
    obtain ⟨x, hx⟩ : ∃ x, L[i] = x := ⟨_, rfl⟩
    have hxm : x ∈ L := by rw [← hx]; exact List.getElem_mem hil
    have hxs := hs x hxm
    have hxM := hM x hxm
    unfold chicanelaw15_WordsJoins.l0
    rw [if_pos (by omega), if_pos (by omega), if_pos (by omega), rd_at L i hil, hx]
    have hp : words_Plain.f g x = some (WP.plain (bl x)) := by
      have h0 := plain_is x (by omega) (x.size + 1) (by omega)
      exact at_rounds (g := fun k => words_Plain.f k x) (fun k => words_Plain.mono x k) (by omega) h0
    rw [hp, rplain_is x (by omega) g (by omega)]
    simp only [Option.bind_some, bne_self_eq_false, Bool.false_eq_true, if_false]
    rw [w64n i (by omega)]
    refine ih (i + 1) _ (by omega) (by omega) ?_ g (by omega)
    rw [hw, List.drop_eq_getElem_cons hil, hx, wsum]
theorem bounded (L : List ByteArray) : ∃ M, ∀ x ∈ L, x.size ≤ M := by
  induction L with
  | nil => exact ⟨0, fun x hx => by cases hx⟩
  | cons a r ih =>
    obtain ⟨M, hM⟩ := ih
    refine ⟨M + a.size, fun x hx => ?_⟩
    rw [List.mem_cons] at hx
    rcases hx with rfl | hx
    · omega
    · have := hM x hx; omega
theorem joins_pure (L : List ByteArray) (hL : L.length ≤ 140737488351232) (hs : ∀ x ∈ L, x.size ≤ 140737488351232) : ∃ k, chicanelaw15_WordsJoins.f k L = some true := by
  obtain ⟨M, hM⟩ := bounded L
  refine ⟨L.length + M + 200000, ?_⟩
  unfold chicanelaw15_WordsJoins.f
  exact joins_l0 L hL hs M hM L.length 0 0 (by omega) (Nat.zero_le _) (by rw [List.drop_zero]) _ (by omega)
end Go.Proofs.YtbfeokfninedcaaDoor.Ext
set_option linter.unusedVariables false
set_option linter.unusedSimpArgs false
namespace Go.Proofs.YtbfeokfninedcaaDoor.Arg
open Go.RowKit Go.ChangeShapes Go.WideShapes Go.ChangeAt Go.Proofs.YtbfeokfninedcaaDoorW.PrintWords Go.Proofs.YtbfeokfninedcaaDoorW.PrintLast
theorem weightsAll_mem {H : Type} {P : Program} {e : TypeId} : ∀ {ds : List (DataW H)} {d : DataW H} {n : Nat}, d ∈ ds → n ∈ d.weights P e → n ∈ DataW.weightsAll P e ds
  | x :: r, d, n, hd, hn => by
    rw [List.mem_cons] at hd
    rw [DataW.weightsAll, List.mem_append]
    rcases hd with rfl | hd
    · exact .inl hn
    · exact .inr (weightsAll_mem hd hn)
theorem strs_arg {H : Type} {enc : TypeId × Value → H} {w : World} {base : Nat} {sp : Nat → Bool} {held : Bool} {A0 : Option Addr} {len cap : Nat} {d : DataW H} {ps : List MemPlace} {ts : List TypeId} {ds : List (DataW H)}
    (ht : DataW.Trod enc Tryd.prog w base sp held 22 (.slice A0 len cap) d ps) (hsz : (DataW.weightsEach Tryd.prog ts ds).all (· ≤ reachBytes) = true) {j : Nat} (h1 : ts[j]? = some 22) (h2 : ds[j]? = some d) :
    ∃ l : List ByteArray, len = l.length ∧ l.length ≤ cap ∧ Kd.C Kd.string w A0 l.length l ∧ (∀ x ∈ l, x.size ≤ 140737488351232) ∧ l.length ≤ 140737488351232 := by
  obtain ⟨fuel, hf⟩ := ht
  rcases open_strings Tryd.underlying22 Tryd.underlying9 (by kernel_rfl) hf with ⟨hcs, _⟩ | ⟨a, len', cap', ss, hcs, hb, hlc, hm, hsl, hx, hcell, hss⟩
  · simp [Value.cells] at hcs
    obtain ⟨rfl, rfl, rfl⟩ := hcs
    exact ⟨[], rfl, Nat.le_refl _, ⟨rfl, by simp, fun h => by simp at h⟩, (fun x hx => by cases hx), by simp⟩
  · simp [Value.cells] at hcs
    obtain ⟨rfl, rfl, rfl⟩ := hcs
    obtain ⟨rfl, _⟩ := Prod.mk.injEq _ _ _ _ ▸ hx
    have hle : len ≤ ss.length := by rw [hsl]; split <;> omega
    have hl : (ss.take len).length = len := by rw [List.length_take]; omega
    have hw := fun n hn => List.all_eq_true.1 hsz n (DataW.weights_mem_each h1 h2 n hn)
    have hreach : reachBytes = 140737488351232 := rfl
    refine ⟨ss.take len, hl.symm, by rw [hl]; exact hlc, ⟨rfl, by rw [hl]; unfold maxLen at hm; omega, fun hp => ⟨a, rfl, fun j p hj => ?_⟩⟩, fun x hx => ?_, ?_⟩
    · have hjl : j < len := by
        rcases Nat.lt_or_ge j len with h | h
        · exact h
        · rw [List.getElem?_eq_none (by omega)] at hj; cases hj
      refine ⟨[Value.string p], rfl, rfl, fun q u hq => ?_⟩
      have hq0 : q = 0 := by
        rcases q with _ | q
        · rfl
        · simp at hq
      subst hq0
      have hu : u = Value.string p := by simpa using hq.symm
      have := hcell j (by omega)
      rw [List.getElem?_take_of_lt hjl] at hj
      rw [List.getD_eq_getElem?_getD, hj] at this
      rw [hu, show j * Kd.string.sz + 0 = j by show j * 1 + 0 = j; omega]
      exact this
    · have h3 := hw x.data.toList.length (by
        rw [DataW.weights, Tryd.underlying22]
        refine List.mem_cons_of_mem _ (List.mem_append.2 (.inl (weightsAll_mem (d := .lit (.string x.data.toList)) ?_ ?_)))
        · exact List.mem_map.2 ⟨x, hx, rfl⟩
        · simp [DataW.weights])
      simp at h3
      omega
    · have h3 := hw (((strs (ss.take len) : List (DataW H)).length + (strs (ss.drop len) : List (DataW H)).length) * Tryd.prog.bytesOf 9) (by
        rw [DataW.weights, Tryd.underlying22]
        exact List.mem_cons_self)
      have hb16 : Tryd.prog.bytesOf 9 = 16 := by kernel_rfl
      rw [hb16] at h3
      simp [strs] at h3
      rw [hl]
      omega
end Go.Proofs.YtbfeokfninedcaaDoor.Arg
namespace Go.Proofs.YtbfeokfninedcaaDoor.wordsJoins
open Go.ChangeShapes Go.WideShapes Go.ChangeAt Go.RowKit
open Go.ChangeMaps (open_string shut_string)
set_option linter.unusedVariables false
theorem own : ownKnob Tryd.prog.godebug = none := by kernel_rfl
theorem laidOut : laidOutB Tryd.prog = true := by kernel_rfl
theorem door_met (os : Os) (args : Array Value) : laidMetH Tryd.prog Rows.wordsJoinsRow.laid ((World.laidAll Tryd.prog os Rows.wordsJoinsRow.laid).forCall (fun _ _ => 0) ⟨#[], args, []⟩).memory :=
  by rw [MakeChecks.laidMetH_plain _ _ _ (by kernel_rfl)]; exact laidMet_laidAll args (by kernel_rfl) (by kernel_rfl)
set_option maxRecDepth 100000 in
theorem lifted (os : Os) (started : os.Started) (H : Type) (enc : TypeId × Value → H) :
    ReturnsInHanded {} Tryd.checked os 3 .any (fun w args => (Rows.wordsJoinsSpec.pre enc Tryd.prog Tryd.f3 [] false w args ∧ laidMetH Tryd.prog Rows.wordsJoinsRow.laid w) ∧ sizedMet enc Tryd.prog Tryd.f3 (OpenSpec.ofChange Rows.wordsJoinsSpec) false w args) (Rows.wordsJoinsSpec.post enc Tryd.prog Tryd.f3 false true false false) := by
  refine returnsInHanded_of_change_and (C := Tryd.checked) (X := fun w _ => laidMetH Tryd.prog Rows.wordsJoinsRow.laid w) (fun _ _ _ hh h => h.of_heap hh) own started (by kernel_rfl) Tryd.func3
    (ChangeSpec.witness_shaped (enc := enc) (C := Tryd.checked) (os := os) (X := fun w _ => laidMetH Tryd.prog Rows.wordsJoinsRow.laid w) false (World.laidAll Tryd.prog os Rows.wordsJoinsRow.laid) #[.slice none 0 0] 8 rfl (World.shaped_of_RefB (by kernel_rfl) (by kernel_rfl)) (by kernel_rfl) (by kernel_rfl) (by kernel_rfl) (door_met os _)) ?_
  intro W base args ds gs before hval0 hW hcnd hsz0 _ _
  have hsz : (DataW.weightsEach Tryd.prog (Tryd.f3.params.toList ++ Rows.wordsJoinsSpec.plain.varTypes Tryd.prog) (ds ++ gs)).all (· ≤ reachBytes) = true := hsz0
  have hval : ∀ (j : Nat) t v, Tryd.f3.params[j]? = some t → args[j]? = some v → Value.okWide Tryd.prog W .any base t v := hval0
  have hW' := hW
  obtain ⟨p, q, hA0, hV, rfl, hfz, hnd⟩ := hW
  have hA : DataW.TrodAll enc Tryd.prog W 0 (fun _ => true) true Tryd.f3.params.toList args.toList ds p := hA0
  rw [Tryd.params3] at hA hval hsz
  obtain ⟨v0, vs0, d0, ds0, p0, q0, hargs, rfl, rfl, h0, r0'⟩ := trodAll_cons hA
  obtain ⟨rfl, rfl, rfl⟩ := trodAll_nil r0'
  obtain rfl : args = #[v0] := by cases args; simp_all
  obtain ⟨rfl, rfl⟩ := trodVars_none hV
  have k0 := h0
  have lt0 : ∀ x ∈ p0, x.block < W.heap.size := by obtain ⟨m, hm⟩ := k0; exact DataW.trod_lt m _ _ _ hm
  obtain ⟨A0, len0, cp0, rfl⟩ := okWide_slice Tryd.underlying22 (hval 0 22 v0 rfl rfl)
  obtain ⟨l0, rfl, hc0, r0, m0, g0⟩ := Arg.strs_arg h0 hsz (j := 0) rfl rfl
  clear hA0 hval0 hsz0 hsz
  refine (PWrdB.chicanelaw15_WordsJoins.calls _ A0 cp0 l0 true W r0 hc0 (Ext.joins_pure l0 g0 m0).choose_spec).mono fun e W' ⟨he, bel⟩ => ?_
  subst he
  exact ⟨_, rfl, _, _, _, [], _, [], hW', trodAll_mk1 (shut_bool Tryd.underlying4 _), (trodAll_cons_mk (Below.trod laidOut (by kernel_rfl) (of_decide_eq_true (by kernel_rfl)) k0 bel lt0) trodAll_mk0), rfl, bel.frame _, fun h => by cases h⟩
theorem over : Rows.wordsJoinsRow.holds Tryd.pinned (OpenSpec.ofChange Rows.wordsJoinsSpec) :=
  OpenClaim.holds_of_wide 3 Tryd.f3 rfl rfl rfl rfl rfl rfl rfl ⟨rfl, rfl, rfl, rfl, rfl⟩ rfl rfl rfl rfl rfl (by kernel_rfl) Tryd.func3 (by kernel_rfl)
    (of_decide_eq_true (by kernel_rfl)) (by unfold Func.isWrapper; first | (rw [if_pos (by decide +kernel)]; kernel_rfl) | (rw [if_neg (by decide +kernel)]; exact ⟨rfl, rfl⟩))
    (fun os started H enc _ => lifted os started H enc)
theorem proved : Rows.WordsJoinsSaid := over
end Go.Proofs.YtbfeokfninedcaaDoor.wordsJoins
namespace Go.Proofs.YtbfeokfninedcaaDoor
theorem wordsJoins_holds : Rows.WordsJoinsSaid := wordsJoins.proved
end Go.Proofs.YtbfeokfninedcaaDoor
namespace Go.Proofs.YtbfeokfninedcaaDoor
theorem wordsJoinsCard_holds : Rows.WordsJoinsCardSaid :=
  Claim7.holds_tied_plain_at .later [] [.data, .pinned] true (true, "41b0d8bda04e9d2707ea830320af7feaa9ccda16d244c5287053b37fa253a9f4") true
    wordsJoins_holds (fun _ h => by cases h) (by kernel_rfl) (fun _ h => by cases h) wordsJoins_row_tie rfl ⟨rfl, rfl⟩ (by kernel_rfl) rfl
    (fun f fn hf hfn => by
      obtain rfl : f = 3 := Option.some.inj ((show Tryd.prog.funcNamed "chicane/chicanelaw15.WordsJoins" = some 3 by kernel_rfl).symm.trans hf) |>.symm
      obtain rfl : fn = Tryd.f3 := (Option.some.inj (Tryd.func3.symm.trans hfn)).symm
      exact ⟨by kernel_rfl, fun j t ht => by
        rw [Tryd.params3] at ht
        have h3 : t = 22 := by
          rcases j with _ | j
          · simpa using ht.symm
          simp at ht
        rcases h3 with rfl
        · exact (show Tryd.prog.wantsStandIn 22 = false by kernel_rfl)⟩)
    (by kernel_rfl)
end Go.Proofs.YtbfeokfninedcaaDoor
