/- Gathered by a program of this session (shake.py): what the claim's theorem needs. -/
import Derived.Test.YtlglbpjccpdloaaGreatNs1
import Derived.Test.YtlglbpjccpdloaaGreatNs2
import Derived.Test.YtlglbpjccpdloaaGreatNs3
set_option linter.unusedVariables false
set_option linter.unusedSimpArgs false
namespace Go.Proofs.YtlglbpjccpdloaaGreat.Ext
end Go.Proofs.YtlglbpjccpdloaaGreat.Ext
namespace Go.Proofs.YtlglbpjccpdloaaGreat.Sq
end Go.Proofs.YtlglbpjccpdloaaGreat.Sq
namespace Go.Proofs.YtlglbpjccpdloaaGreat.ToxZ
end Go.Proofs.YtlglbpjccpdloaaGreat.ToxZ
namespace Go.Proofs.YtlglbpjccpdloaaGreatW.PrintLast
end Go.Proofs.YtlglbpjccpdloaaGreatW.PrintLast
namespace Go.Proofs.YtlglbpjccpdloaaGreatW.PrintMore
end Go.Proofs.YtlglbpjccpdloaaGreatW.PrintMore
namespace Go.Proofs.YtlglbpjccpdloaaGreatW.PrintWords
end Go.Proofs.YtlglbpjccpdloaaGreatW.PrintWords
namespace Go.Proofs.YtlglbpjccpdloaaGreat.PNamA
open Go.Proofs.YtlglbpjccpdloaaGreat.Ext Go.Proofs.YtlglbpjccpdloaaGreat.ToxZ Go.RowKit Go.Proofs.YtlglbpjccpdloaaGreatW.PrintWords Go.Proofs.YtlglbpjccpdloaaGreatW.PrintLast Go.Proofs.YtlglbpjccpdloaaGreatW.PrintMore Go.Proofs.YtlglbpjccpdloaaGreat.Sq
attribute [local go_sem] max2_int min2_int max_two min_two max_three min_three max_four min_four   -- for this text's walks alone
set_option linter.unusedVariables false
set_option linter.unusedSimpArgs false
def names_Reset.l0 : Nat → List (S39) → Int → Int → Option ((List (S39)))
 | 0, _, _, _ => none
 | k + 1, x3, x11, x12 => if x12 < x11 then (if 0 ≤ x12 then (if x12 < (x3.length : Int) then ((some (x3.set (x12 : Int).toNat (⟨(rd_T39 x3 x12).f0, true, (rd_T39 x3 x12).f2, (rd_T39 x3 x12).f3⟩ : S39) : List (S39))).bind fun y171 => (names_Reset.l0 k (y171.set (x12 : Int).toNat (⟨(rd_T39 y171 x12).f0, (rd_T39 y171 x12).f1, (rd_T39 y171 x12).f2, ([] : List (S24))⟩ : S39)) x11 (wrap64 (x12 + 1)))) else (none)) else (none)) else (some x3)
def names_Reset.f (k : Nat) (l0 : List (S39)) : Option ((List (S39))) := (names_Right.f k l0).bind fun t167 => (if t167 = true then ((names_own.f l0).bind fun t168 => (names_Reset.l0 k t168 (t168.length : Int) 0)) else (some ([] : List (S39))))
set_option maxHeartbeats 8000000 in
set_option maxRecDepth 100000 in
theorem names_Reset.calls (k : Nat) (A0 : Option Addr) (c0 : Nat) (l0 : List (S39)) (r : List (S39)) (w : World) (hr0 : Kd.C k39 w A0 l0.length l0) (hc0 : l0.length ≤ c0) (h : names_Reset.f k l0 = some r) :
  Calls Tryz.prog 24 #[.slice A0 l0.length c0] w fun e w' => ∃ v0_ : Value, e = .returned (v0_) ∧ Kd.S k39 39 w' w.heap.size (fun _ => True) v0_ r ∧ Below w.heap.size w w' := by
 have HR0 := Aside0.mk hr0
 have HC0 := Aside0.mk hc0
 clear hr0 hc0
 have HB := Aside0.mk (Below.refl w.heap.size w)
 have H : ((names_Right.f k l0).bind fun t167 => (if t167 = true then ((names_own.f l0).bind fun t168 => (names_Reset.l0 k t168 (t168.length : Int) 0)) else (some ([] : List (S39))))) = some r := h
 clear h
 replace H := Option.bind_eq_some_iff.mp H
 obtain ⟨t167, A20, H⟩ := H
 replace H : (if t167 = true then ((names_own.f l0).bind fun t168 => (names_Reset.l0 k t168 (t168.length : Int) 0)) else (some ([] : List (S39)))) = some r := H
 have A2 := Aside0.mk A20
 clear A20
 by_cases c3 : t167 = true
 ·subst c3
  have H1 : ((names_own.f l0).bind fun t168 => (names_Reset.l0 k t168 (t168.length : Int) 0)) = some r := by rw [if_pos rfl] at H; exact H
  clear H
  have H := H1
  clear H1
  replace H := Option.bind_eq_some_iff.mp H
  obtain ⟨t168, A40, H⟩ := H
  replace H : (names_Reset.l0 k t168 (t168.length : Int) 0) = some r := H
  have A4 := Aside0.mk A40
  clear A40
  have H' := Aside0.mk H
  clear H
  go_enter Tryz.func24, Tryz.ntmps24
  go_wp2_with (first | ((with_reducible refine gate_callee (f := 13) rfl ?_); refine goesL_ (some 6) rfl rfl Tryz.func13 qr rfl #[.slice A0 l0.length c0] rfl qG ?_; (with_reducible refine (names_Right.calls k _ _ l0 true _ ?side1 ?side2 A2.out).mono ?_); (case side1 => repeat (first | exact HR0.out | (with_reducible refine Kd.C_alloc ?_ _) | (with_reducible refine Kd.C_drewN ?_ _) | (with_reducible refine Kd.C_drew ?_))); (case side2 => exact HC0.out); rintro e w5 ⟨rfl, hb⟩; refine ⟨_, rfl, ?_⟩; replace HB := Aside0.mk (below_step (qB HB.out) hb); (try clear hb); (try clear hb2); (try clear hk); (try clear hi)) | ((with_reducible refine gate_callee (f := 30) rfl ?_); refine goesL_ (some 9) rfl rfl Tryz.func30 qr rfl #[.slice A0 l0.length c0] rfl qG ?_; (with_reducible refine (names_own.calls _ _ l0 t168 _ ?side1 ?side2 A4.out).mono ?_); (case side1 => repeat (first | exact (Kd.C_below HR0.out HB.out) | (with_reducible refine Kd.C_alloc ?_ _) | (with_reducible refine Kd.C_drewN ?_ _) | (with_reducible refine Kd.C_drew ?_))); (case side2 => exact HC0.out); rintro e w6 ⟨v169, rfl, ho0, hb⟩; refine ⟨_, rfl, ?_⟩; have HO170 := Aside0.mk (Kd.S_lower ho0 (below_size (qB HB.out))); replace HB := Aside0.mk (below_step (qB HB.out) hb); (try clear hb); (try clear hb2); (try clear hk); (try clear hi); (try clear ho0); obtain ⟨Ao7, co7, eo7⟩ := Kd.S_slice HO170.out; subst eo7))
  go_loopg [12] k (fun kq v12 w' => ∃ (x3_1 : List (S39)) (x12_1 : Int), v12 = .int .i64 x12_1 ∧ Aside0 (names_Reset.l0 kq x3_1 (t168.length : Int) x12_1 = some r) ∧ Aside0 (kq ≤ k) ∧ Aside0 (Kd.S k39 39 w' w.heap.size (fun _ => True) (.slice Ao7 t168.length co7) x3_1) ∧ Aside0 (Below w.heap.size w w'))
  case atStart => exact ⟨(t168), (0), qE1, H', ⟨Nat.le_refl _⟩, ⟨by (with_reducible repeat (first | apply Kd.S_alloc | apply Kd.S_drewN | apply Kd.S_drew)); exact HO170.out⟩, ⟨by repeat (first | (with_reducible first | exact HB.out | apply below_alloc | apply pw_below_drewN | apply below_drew1) | exact HB.out)⟩⟩
  case round =>
   clear H'
   try clear c1
   try clear c2
   try clear p2
   try clear c3
   obtain ⟨x3_1, x12_1, rfl, HA, HK1, HO_3, HB⟩ := hrel
   have hl3_1 := (Kd.S_reads' HO_3.out).1
   rw [hl3_1] at HO_3
   (try simp only [hl3_1])
   cases gk with
   | zero => exact absurd HA.out (by simp [names_Reset.l0])
   | succ k1 =>
    have H := HA.out
    clear HA
    simp only [names_Reset.l0] at H
    by_cases c8 : x12_1 < (t168.length : Int)
    ·rw [if_pos c8] at H
     have c8b0 : decide (x12_1 < (t168.length : Int)) = true := decide_eq_true c8
     clear c8
     by_cases c9 : 0 ≤ x12_1
     ·rw [if_pos c9] at H
      have c9b0 : decide (0 ≤ x12_1) = true := decide_eq_true c9
      clear c9
      by_cases c10 : x12_1 < (x3_1.length : Int)
      ·rw [if_pos c10] at H
       have c10b0 : decide (x12_1 < (x3_1.length : Int)) = true := decide_eq_true c10
       clear c10
       obtain ⟨y171, hy171⟩ : ∃ y_ : List (S39), y_ = (x3_1.set (x12_1 : Int).toNat (⟨(rd_T39 x3_1 x12_1).f0, true, (rd_T39 x3_1 x12_1).f2, (rd_T39 x3_1 x12_1).f3⟩ : S39)) := ⟨_, rfl⟩
       replace H : (names_Reset.l0 k1 (y171.set (x12_1 : Int).toNat (⟨(rd_T39 y171 x12_1).f0, (rd_T39 y171 x12_1).f1, (rd_T39 y171 x12_1).f2, ([] : List (S24))⟩ : S39)) (t168.length : Int) (wrap64 (x12_1 + 1))) = some r := by first | (rw [hy171]; with_reducible exact H) | (have H2_ := (Option.bind_some _ _).symm.trans H; rw [hy171]; with_reducible exact H2_) | (have H2_ := (Option.bind_some _ _).symm.trans H; with_reducible exact H2_) | with_reducible exact H | (rw [hy171]; exact H) | exact H
       have Ny171 := Aside0.mk hy171
       clear hy171
       obtain ⟨y172, hy172⟩ : ∃ y_ : List (S39), y_ = (y171.set (x12_1 : Int).toNat (⟨(rd_T39 y171 x12_1).f0, (rd_T39 y171 x12_1).f1, (rd_T39 y171 x12_1).f2, ([] : List (S24))⟩ : S39)) := ⟨_, rfl⟩
       replace H : (names_Reset.l0 k1 y172 (t168.length : Int) (wrap64 (x12_1 + 1))) = some r := by first | (rw [hy172]; with_reducible exact H) | (have H2_ := (Option.bind_some _ _).symm.trans H; rw [hy172]; with_reducible exact H2_) | (have H2_ := (Option.bind_some _ _).symm.trans H; with_reducible exact H2_) | with_reducible exact H | (rw [hy172]; exact H) | exact H
       have Ny172 := Aside0.mk hy172
       clear hy172
       have H' := Aside0.mk H
       clear H
       have p11 : 0 ≤ (x12_1 : Int) := of_decide_eq_true qA
       have q11 : (x12_1 : Int) < ((x3_1.length : Int) : Int) := of_decide_eq_true qA
       obtain ⟨go11, co11, eo11, gb11, gl11, cl11, HG11⟩ := Kd.S_form HO_3.out (by omega)
       (first | cases eo11 | (injection eo11 with ea_ en_ ec_; (first | subst ea_ | (injection ea_ with ea_; subst ea_)); subst ec_; clear en_))
       have GB11 := Aside0.mk gb11
       have GG11 := Aside0.mk HG11
       clear gb11 gl11 HG11
       obtain ⟨_, ce11, hcl11, hM11, hcc11, hfr11, _, _⟩ := Kd.S_elem HO_3.out z39 (x12_1 : Int) p11 q11
       obtain ⟨ve11_3, rfl, ge11_3⟩ := k39_openM hM11
       have hx11_0 : wr.cell? ⟨go11, (x12_1 : Int).toNat * 4, none⟩ = some (.string ((rd_T39 x3_1 x12_1).f0)) := hcc11 0 _ rfl
       have hx11_1 : wr.cell? ⟨go11, (x12_1 : Int).toNat * 4 + 1, none⟩ = some (.bool ((rd_T39 x3_1 x12_1).f1)) := hcc11 1 _ rfl
       have hx11_2 : wr.cell? ⟨go11, (x12_1 : Int).toNat * 4 + 2, none⟩ = some (.int .i64 ((rd_T39 x3_1 x12_1).f2)) := hcc11 2 _ rfl
       have hx11_3 : wr.cell? ⟨go11, (x12_1 : Int).toNat * 4 + 3, none⟩ = some (ve11_3) := hcc11 3 _ rfl
       have hf11_0 : wr.frozen? ⟨go11, (x12_1 : Int).toNat * 4, none⟩ = false := hfr11 0
       have hf11_1 : wr.frozen? ⟨go11, (x12_1 : Int).toNat * 4 + 1, none⟩ = false := hfr11 1
       have hf11_2 : wr.frozen? ⟨go11, (x12_1 : Int).toNat * 4 + 2, none⟩ = false := hfr11 2
       have hf11_3 : wr.frozen? ⟨go11, (x12_1 : Int).toNat * 4 + 3, none⟩ = false := hfr11 3
       clear hcl11 hcc11 hfr11 hM11
       replace p11 := eq_true p11
       replace q11 := eq_true q11
       have HX13 := Aside0.mk (show Kd.S k39 39 wr w.heap.size (fun k_ => ((fun _ => True)) k_ ∧ ¬ ((fun _ => False)) k_) (.slice (some ⟨go11, 0, none⟩) x3_1.length co7) x3_1 from (qS (Kd.S_mono HO_3.out (fun k_ hk => ⟨trivial, fun e_ => e_⟩))))
       obtain ⟨oki13, ce13, hcl13, hM13, hcc13, hfr13, hoki13, hH13⟩ := Kd.S_elem HX13.out z39 (x12_1 : Int) (of_decide_eq_true qA) (by have h_ : (x12_1 : Int) < ((x3_1.length : Int) : Int) := of_decide_eq_true qA; first | exact h_ | (have e_ := (Kd.S_reads' HO_3.out).1; omega) | simpa using h_)
       obtain ⟨ve13_3, rfl, ge13_3⟩ := k39_openM hM13
       have HP13 := Kd.S_seg hH13 (of_decide_eq_true qA) (by have h_ : (x12_1 : Int) < ((x3_1.length : Int) : Int) := of_decide_eq_true qA; first | exact h_ | (have e_ := (Kd.S_reads' HO_3.out).1; omega) | simpa using h_) (seg := [.bool true]) (j := 1) (show 2 ≤ 4 from by decide) (x' := (⟨(rd_T39 x3_1 x12_1).f0, true, (rd_T39 x3_1 x12_1).f2, (rd_T39 x3_1 x12_1).f3⟩ : S39)) (k39_mkM _ _ _ (⟨(rd_T39 x3_1 x12_1).f0, true, (rd_T39 x3_1 x12_1).f2, (rd_T39 x3_1 x12_1).f3⟩ : S39) (Kd.R_mono ge13_3 (fun _ h_ => Or.inl h_))) (fun _ hk => hk) (fun k_ hk_ => hk_.elim)
       have hx13_1 := hcc13 1 _ rfl
       (try simp only [show (k39).sz = 4 from rfl, Nat.mul_one, Nat.add_zero] at hx13_1)
       have hf13_1 := hfr13 1
       (try simp only [show (k39).sz = 4 from rfl, Nat.mul_one, Nat.add_zero] at hf13_1)
       clear hcl13 hcc13 hfr13 hM13 hoki13 hH13
       go_wp2_with (first | ((with_reducible refine gate_store (t := 4) (p := 20) rfl ?_); refine store_event (t := 4) (p := 20) (v := ?vo_w14) (w1 := (wr.setCell ⟨go11, (x12_1 : Int).toNat * 4 + 1, none⟩ (.bool true))) ?hg ?ho ?hn ?hr ?_; (case ho => rfl); (case hg => rfl); (case hn => rfl); (case hr => first | (go_simp; done) | (go_simp; rfl)); intro w14 hw; have hg : wr.grownBy w14 (some go11) := (by rw [hw]; exact HP13.2); have hp_ : Kd.S k39 39 w14 w.heap.size (fun _ => True) (.slice (some ⟨go11, 0, none⟩) x3_1.length co7) y171 := (by rw [hw, Ny171.out]; exact HP13.1); clear HP13; replace HO_3 := Aside0.mk (hp_); replace HB := Aside0.mk ((by rw [hw]; exact below_set (HB.out) GB11.out : Below w.heap.size w w14)); clear hg hw hp_; have p12 : 0 ≤ (x12_1 : Int) := of_decide_eq_true qA; have q12 : (x12_1 : Int) < ((x3_1.length : Int) : Int) := of_decide_eq_true qA; obtain ⟨_, ce12, hcl12, hM12, hcc12, hfr12, _, _⟩ := Kd.S_elem HO_3.out z39 (x12_1 : Int) p12 q12; obtain ⟨ve12_3, rfl, ge12_3⟩ := k39_openM hM12; have hx12_0 : w14.cell? ⟨go11, (x12_1 : Int).toNat * 4, none⟩ = some (.string ((rd_T39 y171 x12_1).f0)) := hcc12 0 _ rfl; have hx12_1 : w14.cell? ⟨go11, (x12_1 : Int).toNat * 4 + 1, none⟩ = some (.bool ((rd_T39 y171 x12_1).f1)) := hcc12 1 _ rfl; have hx12_2 : w14.cell? ⟨go11, (x12_1 : Int).toNat * 4 + 2, none⟩ = some (.int .i64 ((rd_T39 y171 x12_1).f2)) := hcc12 2 _ rfl; have hx12_3 : w14.cell? ⟨go11, (x12_1 : Int).toNat * 4 + 3, none⟩ = some (ve12_3) := hcc12 3 _ rfl; have hf12_0 : w14.frozen? ⟨go11, (x12_1 : Int).toNat * 4, none⟩ = false := hfr12 0; have hf12_1 : w14.frozen? ⟨go11, (x12_1 : Int).toNat * 4 + 1, none⟩ = false := hfr12 1; have hf12_2 : w14.frozen? ⟨go11, (x12_1 : Int).toNat * 4 + 2, none⟩ = false := hfr12 2; have hf12_3 : w14.frozen? ⟨go11, (x12_1 : Int).toNat * 4 + 3, none⟩ = false := hfr12 3; clear hcl12 hcc12 hfr12 hM12; replace p12 := eq_true p12; replace q12 := eq_true q12; have HX15 := Aside0.mk (show Kd.S k39 39 w14 w.heap.size (fun k_ => ((fun _ => True)) k_ ∧ ¬ ((fun _ => False)) k_) (.slice (some ⟨go11, 0, none⟩) x3_1.length co7) y171 from (qS (Kd.S_mono HO_3.out (fun k_ hk => ⟨trivial, fun e_ => e_⟩)))); obtain ⟨oki15, ce15, hcl15, hM15, hcc15, hfr15, hoki15, hH15⟩ := Kd.S_elem HX15.out z39 (x12_1 : Int) (of_decide_eq_true qA) (by have h_ : (x12_1 : Int) < ((x3_1.length : Int) : Int) := of_decide_eq_true qA; first | exact h_ | (have e_ := (Kd.S_reads' HO_3.out).1; omega) | simpa using h_); obtain ⟨ve15_3, rfl, ge15_3⟩ := k39_openM hM15; have HP15 := Kd.S_seg hH15 (of_decide_eq_true qA) (by have h_ : (x12_1 : Int) < ((x3_1.length : Int) : Int) := of_decide_eq_true qA; first | exact h_ | (have e_ := (Kd.S_reads' HO_3.out).1; omega) | simpa using h_) (seg := [.slice none 0 0]) (j := 3) (show 4 ≤ 4 from by decide) (x' := (⟨(rd_T39 y171 x12_1).f0, (rd_T39 y171 x12_1).f1, (rd_T39 y171 x12_1).f2, ([] : List (S24))⟩ : S39)) (k39_mkM _ _ _ (⟨(rd_T39 y171 x12_1).f0, (rd_T39 y171 x12_1).f1, (rd_T39 y171 x12_1).f2, ([] : List (S24))⟩ : S39) (Kd.R_nil _ _ _ _ _)) (fun _ hk => hk) (fun k_ hk_ => hk_.elim); have hx15_3 := hcc15 3 _ rfl; (try simp only [show (k39).sz = 4 from rfl, Nat.mul_one, Nat.add_zero] at hx15_3); have hf15_3 := hfr15 3; (try simp only [show (k39).sz = 4 from rfl, Nat.mul_one, Nat.add_zero] at hf15_3); clear hcl15 hcc15 hfr15 hM15 hoki15 hH15) | ((with_reducible refine gate_store (t := 37) (p := 22) rfl ?_); refine store_event (t := 37) (p := 22) (v := ?vo_w16) (w1 := (w14.setCell ⟨go11, (x12_1 : Int).toNat * 4 + 3, none⟩ (.slice none 0 0))) ?hg ?ho ?hn ?hr ?_; (case ho => rfl); (case hg => rfl); (case hn => rfl); (case hr => first | (go_simp; done) | (go_simp; rfl)); intro w16 hw; have hg : w14.grownBy w16 (some go11) := (by rw [hw]; exact HP15.2); have hp_ : Kd.S k39 39 w16 w.heap.size (fun _ => True) (.slice (some ⟨go11, 0, none⟩) x3_1.length co7) y172 := (by rw [hw, Ny172.out]; exact HP15.1); clear HP15; replace HO_3 := Aside0.mk (hp_); replace HB := Aside0.mk ((by rw [hw]; exact below_set (HB.out) GB11.out : Below w.heap.size w w16)); clear hg hw hp_))
       (try simp only [← hl3_1])
       go_roundg k1
       case measure => have := HK1.out; omega
       case rel => exact ⟨(y172), (wrap64 (x12_1 + 1)), qE1, H', ⟨by have := HK1.out; omega⟩, ⟨by (try simp only [hl3_1]); (with_reducible repeat (first | apply Kd.S_alloc | apply Kd.S_drewN | apply Kd.S_drew)); exact HO_3.out⟩, ⟨by repeat (first | (with_reducible first | exact HB.out | apply below_alloc | apply pw_below_drewN | apply below_drew1) | exact HB.out)⟩⟩
      ·rw [if_neg c10] at H
       exact absurd H (by simp)
     ·rw [if_neg c9] at H
      exact absurd H (by simp)
    ·rw [if_neg c8] at H
     have c8b0 : decide (x12_1 < (t168.length : Int)) = false := decide_eq_false c8
     replace c8b0 : decide (x12_1 < (x3_1.length : Int)) = false := by rw [← hl3_1]; exact c8b0
     clear c8
     obtain rfl := Option.some.inj H
     go_wp2
     go_ret
     exact ⟨_, qE, by (with_reducible repeat (first | apply Kd.S_alloc | apply Kd.S_drewN | apply Kd.S_drew)); exact HO_3.out, by repeat (first | (with_reducible first | exact HB.out | apply below_alloc | apply pw_below_drewN | apply below_drew1) | exact HB.out)⟩
 ·replace c3 := Bool.eq_false_iff.mpr c3
  subst c3
  have H1 : (some ([] : List (S39))) = some r := by rw [if_neg (show ¬ (false = true) by decide)] at H; exact H
  clear H
  have H := H1
  clear H1
  obtain rfl := Option.some.inj H
  go_enter Tryz.func24, Tryz.ntmps24
  go_wp2_with (first | ((with_reducible refine gate_callee (f := 13) rfl ?_); refine goesL_ (some 6) rfl rfl Tryz.func13 qr rfl #[.slice A0 l0.length c0] rfl qG ?_; (with_reducible refine (names_Right.calls k _ _ l0 false _ ?side1 ?side2 A2.out).mono ?_); (case side1 => repeat (first | exact HR0.out | (with_reducible refine Kd.C_alloc ?_ _) | (with_reducible refine Kd.C_drewN ?_ _) | (with_reducible refine Kd.C_drew ?_))); (case side2 => exact HC0.out); rintro e w17 ⟨rfl, hb⟩; refine ⟨_, rfl, ?_⟩; replace HB := Aside0.mk (below_step (qB HB.out) hb); (try clear hb); (try clear hb2); (try clear hk); (try clear hi)))
  go_ret
  exact ⟨_, qE, by first | exact Kd.S_nil _ _ _ _ _ | exact Kd.N_nil _ _ _ _ _ | exact Kd.V_nil _ _ _ _ _ | exact Kd.Q_nil _ _ _ _ _ | exact Kd.R_nil _ _ _ _ _, by repeat (first | (with_reducible first | exact HB.out | apply below_alloc | apply pw_below_drewN | apply below_drew1) | exact HB.out)⟩
def chicanelaw14_does.f (k : Nat) (l0 : List (S39)) (a1_0 : Int) (a1_1 : Int) (a1_2 : ByteArray) (a1_3 : ByteArray) (a1_4 : Bool) (a1_5 : ByteArray) (a1_6 : Int) (a1_7 : Bool) (a1_8 : Int) (a1_9 : Int) (a1_10 : Int) : Option ((List (S39)) × Int) := if a1_0 = 0 then ((names_Add.f l0 a1_2 a1_1).bind fun bt174 => (some (bt174.1, bt174.2))) else (if a1_0 = 1 then ((names_Drop.f l0 a1_2).bind fun bt178 => (some (bt178.1, bt178.2))) else (if a1_0 = 2 then ((names_Switch.f l0 a1_2 a1_4).bind fun bt182 => (some (bt182.1, bt182.2))) else (if a1_0 = 3 then ((names_AddToxic.f l0 a1_2 a1_5 a1_6 a1_7 a1_8 a1_9 a1_10).bind fun bt186 => (some (bt186.1, bt186.2))) else (if a1_0 = 4 then ((names_DropToxic.f l0 a1_2 a1_3).bind fun bt190 => (some (bt190.1, bt190.2))) else (if a1_0 = 5 then ((names_SetToxic.f l0 a1_2 a1_5 a1_6 a1_7 a1_8 a1_9 a1_10).bind fun bt194 => (some (bt194.1, bt194.2))) else ((names_Reset.f k l0).bind fun t198 => (some (t198, 0))))))))
set_option maxHeartbeats 8000000 in
set_option maxRecDepth 100000 in
theorem chicanelaw14_does.calls (k : Nat) (A0 : Option Addr) (c0 : Nat) (l0 : List (S39)) (a1_0 : Int) (a1_1 : Int) (a1_2 : ByteArray) (a1_3 : ByteArray) (a1_4 : Bool) (a1_5 : ByteArray) (a1_6 : Int) (a1_7 : Bool) (a1_8 : Int) (a1_9 : Int) (a1_10 : Int) (r1 : List (S39)) (r2 : Int) (w : World) (hr0 : Kd.C k39 w A0 l0.length l0) (hc0 : l0.length ≤ c0) (h : chicanelaw14_does.f k l0 a1_0 a1_1 a1_2 a1_3 a1_4 a1_5 a1_6 a1_7 a1_8 a1_9 a1_10 = some (r1, r2)) :
  Calls Tryz.prog 9 #[.slice A0 l0.length c0, .agg #[.int .i64 a1_0, .int .i64 a1_1, .string a1_2, .string a1_3, .bool a1_4, .string a1_5, .int .i64 a1_6, .bool a1_7, .int .i64 a1_8, .int .i64 a1_9, .int .i64 a1_10]] w fun e w' => ∃ v0_ : Value, e = .returned (.tuple #[v0_, .int .i64 r2]) ∧ Kd.S k39 39 w' w.heap.size (fun _ => True) v0_ r1 ∧ Below w.heap.size w w' := by
 have hu26 := Tryz.underlying26
 have hu24 := Tryz.underlying24
 have HR0 := Aside0.mk hr0
 have HC0 := Aside0.mk hc0
 clear hr0 hc0
 have HB := Aside0.mk (Below.refl w.heap.size w)
 have H : (if a1_0 = 0 then ((names_Add.f l0 a1_2 a1_1).bind fun bt174 => (some (bt174.1, bt174.2))) else (if a1_0 = 1 then ((names_Drop.f l0 a1_2).bind fun bt178 => (some (bt178.1, bt178.2))) else (if a1_0 = 2 then ((names_Switch.f l0 a1_2 a1_4).bind fun bt182 => (some (bt182.1, bt182.2))) else (if a1_0 = 3 then ((names_AddToxic.f l0 a1_2 a1_5 a1_6 a1_7 a1_8 a1_9 a1_10).bind fun bt186 => (some (bt186.1, bt186.2))) else (if a1_0 = 4 then ((names_DropToxic.f l0 a1_2 a1_3).bind fun bt190 => (some (bt190.1, bt190.2))) else (if a1_0 = 5 then ((names_SetToxic.f l0 a1_2 a1_5 a1_6 a1_7 a1_8 a1_9 a1_10).bind fun bt194 => (some (bt194.1, bt194.2))) else ((names_Reset.f k l0).bind fun t198 => (some (t198, 0))))))))) = some (r1, r2) := h
 clear h
 by_cases c3 : a1_0 = 0
 ·rw [if_pos c3] at H
  have c3b0 : (a1_0 == 0) = true := beq_iff_eq.mpr c3
  have c3b1 : (a1_0 != 0) = false := bne_eq_false_iff_eq.mpr c3
  clear c3
  replace H := Option.bind_eq_some_iff.mp H
  obtain ⟨⟨t174, t175⟩, A40, H⟩ := H
  replace H : (some (t174, t175)) = some (r1, r2) := H
  have A4 := Aside0.mk A40
  clear A40
  simp only [Option.some.injEq, Prod.mk.injEq] at H
  obtain ⟨rfl, rfl⟩ := H
  go_enter Tryz.func9, Tryz.ntmps9
  go_wp2_with (first | ((with_reducible refine gate_dst (N := 3) rfl ?_); refine box_event ?hg (N := 3) ?hd (cs := #[.int .i64 a1_0, .int .i64 a1_1, .string a1_2, .string a1_3, .bool a1_4, .string a1_5, .int .i64 a1_6, .bool a1_7, .int .i64 a1_8, .int .i64 a1_9, .int .i64 a1_10]) (t := 26) ?hr ?_; (case hd => rfl); (case hg => rfl); (case hr => first | (go_simp; done) | (go_simp; rfl)); intro gb173 hg w5 hbox hb; have n0_ := Aside0.mk (below_step (qB HB.out) hb); have n1_ := Aside0.mk (hbox); have n2_ := Aside0.mk ((qs hg (below_size (qB HB.out)) : w.heap.size ≤ gb173)); have n3_ := Aside0.mk ((qs hg (below_size (qB HB.out)) : w.heap.size ≤ gb173)); clear HB; have HB := n0_; have BK173 := n1_; have GW173 := n2_; have GE173 := n3_; clear n0_ n1_ n2_ n3_ hb hbox hg; have hcz6 := qC11 BK173.out) | ((with_reducible refine gate_callee (f := 15) rfl ?_); refine goesL_ (some 15) rfl rfl Tryz.func15 qr rfl #[.slice A0 l0.length c0, .string a1_2, .int .i64 a1_1] rfl qG ?_; (with_reducible refine (names_Add.calls _ _ l0 a1_2 a1_1 t174 t175 _ ?side1 ?side2 A4.out).mono ?_); (case side1 => repeat (first | exact (Kd.C_below HR0.out HB.out) | (with_reducible refine Kd.C_alloc ?_ _) | (with_reducible refine Kd.C_drewN ?_ _) | (with_reducible refine Kd.C_drew ?_))); (case side2 => exact HC0.out); rintro e w7 ⟨v176, rfl, ho0, hb⟩; refine ⟨_, rfl, ?_⟩; have HO177 := Aside0.mk (Kd.S_lower ho0 (below_size (qB1 HB.out GE173.out))); replace BK173 := Aside0.mk (blk_below (qK BK173.out) hb); replace HB := Aside0.mk (below_step (qB1 HB.out GE173.out) hb); (try clear hb); (try clear hb2); (try clear hk); (try clear hi); (try clear ho0)))
  go_ret2
  exact ⟨_, qE, by (with_reducible repeat (first | apply Kd.S_alloc | apply Kd.S_drewN | apply Kd.S_drew)); exact HO177.out, by repeat (first | (with_reducible first | exact HB.out | apply below_alloc | apply pw_below_drewN | apply below_drew1 | refine below_set ?_ GE173.out) | exact HB.out)⟩
 ·rw [if_neg c3] at H
  have c3b0 : (a1_0 == 0) = false := beq_eq_false_iff_ne.mpr c3
  have c3b1 : (a1_0 != 0) = true := bne_iff_ne.mpr c3
  by_cases c8 : a1_0 = 1
  ·rw [if_pos c8] at H
   have c8b0 : (a1_0 == 1) = true := beq_iff_eq.mpr c8
   have c8b1 : (a1_0 != 1) = false := bne_eq_false_iff_eq.mpr c8
   clear c8
   replace H := Option.bind_eq_some_iff.mp H
   obtain ⟨⟨t178, t179⟩, A90, H⟩ := H
   replace H : (some (t178, t179)) = some (r1, r2) := H
   have A9 := Aside0.mk A90
   clear A90
   simp only [Option.some.injEq, Prod.mk.injEq] at H
   obtain ⟨rfl, rfl⟩ := H
   go_enter Tryz.func9, Tryz.ntmps9
   go_wp2_with (first | ((with_reducible refine gate_dst (N := 3) rfl ?_); refine box_event ?hg (N := 3) ?hd (cs := #[.int .i64 a1_0, .int .i64 a1_1, .string a1_2, .string a1_3, .bool a1_4, .string a1_5, .int .i64 a1_6, .bool a1_7, .int .i64 a1_8, .int .i64 a1_9, .int .i64 a1_10]) (t := 26) ?hr ?_; (case hd => rfl); (case hg => rfl); (case hr => first | (go_simp; done) | (go_simp; rfl)); intro gb173 hg w10 hbox hb; have n0_ := Aside0.mk (below_step (qB HB.out) hb); have n1_ := Aside0.mk (hbox); have n2_ := Aside0.mk ((qs hg (below_size (qB HB.out)) : w.heap.size ≤ gb173)); have n3_ := Aside0.mk ((qs hg (below_size (qB HB.out)) : w.heap.size ≤ gb173)); clear HB; have HB := n0_; have BK173 := n1_; have GW173 := n2_; have GE173 := n3_; clear n0_ n1_ n2_ n3_ hb hbox hg; have hcz11 := qC11 BK173.out) | ((with_reducible refine gate_callee (f := 19) rfl ?_); refine goesL_ (some 23) rfl rfl Tryz.func19 qr rfl #[.slice A0 l0.length c0, .string a1_2] rfl qG ?_; (with_reducible refine (names_Drop.calls _ _ l0 a1_2 t178 t179 _ ?side1 ?side2 A9.out).mono ?_); (case side1 => repeat (first | exact (Kd.C_below HR0.out HB.out) | (with_reducible refine Kd.C_alloc ?_ _) | (with_reducible refine Kd.C_drewN ?_ _) | (with_reducible refine Kd.C_drew ?_))); (case side2 => exact HC0.out); rintro e w12 ⟨v180, rfl, ho0, hb⟩; refine ⟨_, rfl, ?_⟩; have HO181 := Aside0.mk (Kd.S_lower ho0 (below_size (qB1 HB.out GE173.out))); replace BK173 := Aside0.mk (blk_below (qK BK173.out) hb); replace HB := Aside0.mk (below_step (qB1 HB.out GE173.out) hb); (try clear hb); (try clear hb2); (try clear hk); (try clear hi); (try clear ho0)))
   go_ret2
   exact ⟨_, qE, by (with_reducible repeat (first | apply Kd.S_alloc | apply Kd.S_drewN | apply Kd.S_drew)); exact HO181.out, by repeat (first | (with_reducible first | exact HB.out | apply below_alloc | apply pw_below_drewN | apply below_drew1 | refine below_set ?_ GE173.out) | exact HB.out)⟩
  ·rw [if_neg c8] at H
   have c8b0 : (a1_0 == 1) = false := beq_eq_false_iff_ne.mpr c8
   have c8b1 : (a1_0 != 1) = true := bne_iff_ne.mpr c8
   by_cases c13 : a1_0 = 2
   ·rw [if_pos c13] at H
    have c13b0 : (a1_0 == 2) = true := beq_iff_eq.mpr c13
    have c13b1 : (a1_0 != 2) = false := bne_eq_false_iff_eq.mpr c13
    clear c13
    replace H := Option.bind_eq_some_iff.mp H
    obtain ⟨⟨t182, t183⟩, A140, H⟩ := H
    replace H : (some (t182, t183)) = some (r1, r2) := H
    have A14 := Aside0.mk A140
    clear A140
    simp only [Option.some.injEq, Prod.mk.injEq] at H
    obtain ⟨rfl, rfl⟩ := H
    go_enter Tryz.func9, Tryz.ntmps9
    go_wp2_with (first | ((with_reducible refine gate_dst (N := 3) rfl ?_); refine box_event ?hg (N := 3) ?hd (cs := #[.int .i64 a1_0, .int .i64 a1_1, .string a1_2, .string a1_3, .bool a1_4, .string a1_5, .int .i64 a1_6, .bool a1_7, .int .i64 a1_8, .int .i64 a1_9, .int .i64 a1_10]) (t := 26) ?hr ?_; (case hd => rfl); (case hg => rfl); (case hr => first | (go_simp; done) | (go_simp; rfl)); intro gb173 hg w15 hbox hb; have n0_ := Aside0.mk (below_step (qB HB.out) hb); have n1_ := Aside0.mk (hbox); have n2_ := Aside0.mk ((qs hg (below_size (qB HB.out)) : w.heap.size ≤ gb173)); have n3_ := Aside0.mk ((qs hg (below_size (qB HB.out)) : w.heap.size ≤ gb173)); clear HB; have HB := n0_; have BK173 := n1_; have GW173 := n2_; have GE173 := n3_; clear n0_ n1_ n2_ n3_ hb hbox hg; have hcz16 := qC11 BK173.out) | ((with_reducible refine gate_callee (f := 21) rfl ?_); refine goesL_ (some 33) rfl rfl Tryz.func21 qr rfl #[.slice A0 l0.length c0, .string a1_2, .bool a1_4] rfl qG ?_; (with_reducible refine (names_Switch.calls _ _ l0 a1_2 a1_4 t182 t183 _ ?side1 ?side2 A14.out).mono ?_); (case side1 => repeat (first | exact (Kd.C_below HR0.out HB.out) | (with_reducible refine Kd.C_alloc ?_ _) | (with_reducible refine Kd.C_drewN ?_ _) | (with_reducible refine Kd.C_drew ?_))); (case side2 => exact HC0.out); rintro e w17 ⟨v184, rfl, ho0, hb⟩; refine ⟨_, rfl, ?_⟩; have HO185 := Aside0.mk (Kd.S_lower ho0 (below_size (qB1 HB.out GE173.out))); replace BK173 := Aside0.mk (blk_below (qK BK173.out) hb); replace HB := Aside0.mk (below_step (qB1 HB.out GE173.out) hb); (try clear hb); (try clear hb2); (try clear hk); (try clear hi); (try clear ho0)))
    go_ret2
    exact ⟨_, qE, by (with_reducible repeat (first | apply Kd.S_alloc | apply Kd.S_drewN | apply Kd.S_drew)); exact HO185.out, by repeat (first | (with_reducible first | exact HB.out | apply below_alloc | apply pw_below_drewN | apply below_drew1 | refine below_set ?_ GE173.out) | exact HB.out)⟩
   ·rw [if_neg c13] at H
    have c13b0 : (a1_0 == 2) = false := beq_eq_false_iff_ne.mpr c13
    have c13b1 : (a1_0 != 2) = true := bne_iff_ne.mpr c13
    by_cases c18 : a1_0 = 3
    ·rw [if_pos c18] at H
     have c18b0 : (a1_0 == 3) = true := beq_iff_eq.mpr c18
     have c18b1 : (a1_0 != 3) = false := bne_eq_false_iff_eq.mpr c18
     clear c18
     replace H := Option.bind_eq_some_iff.mp H
     obtain ⟨⟨t186, t189⟩, A190, H⟩ := H
     replace H : (some (t186, t189)) = some (r1, r2) := H
     have A19 := Aside0.mk A190
     clear A190
     simp only [Option.some.injEq, Prod.mk.injEq] at H
     obtain ⟨rfl, rfl⟩ := H
     go_enter Tryz.func9, Tryz.ntmps9
     go_wp2_with (first | ((with_reducible refine gate_dst (N := 3) rfl ?_); refine box_event ?hg (N := 3) ?hd (cs := #[.int .i64 a1_0, .int .i64 a1_1, .string a1_2, .string a1_3, .bool a1_4, .string a1_5, .int .i64 a1_6, .bool a1_7, .int .i64 a1_8, .int .i64 a1_9, .int .i64 a1_10]) (t := 26) ?hr ?_; (case hd => rfl); (case hg => rfl); (case hr => first | (go_simp; done) | (go_simp; rfl)); intro gb173 hg w20 hbox hb; have n0_ := Aside0.mk (below_step (qB HB.out) hb); have n1_ := Aside0.mk (hbox); have n2_ := Aside0.mk ((qs hg (below_size (qB HB.out)) : w.heap.size ≤ gb173)); have n3_ := Aside0.mk ((qs hg (below_size (qB HB.out)) : w.heap.size ≤ gb173)); clear HB; have HB := n0_; have BK173 := n1_; have GW173 := n2_; have GE173 := n3_; clear n0_ n1_ n2_ n3_ hb hbox hg; have hcz21 := qC11 BK173.out) | ((with_reducible refine gate_callee (f := 16) rfl ?_); refine goesL_ (some 43) rfl rfl Tryz.func16 qr rfl #[.slice A0 l0.length c0, .string a1_2, .agg #[.string a1_5, .int .i64 a1_6, .bool a1_7, .int .i64 a1_8, .int .i64 a1_9, .int .i64 a1_10]] rfl qG ?_; (with_reducible refine (names_AddToxic.calls _ _ l0 a1_2 a1_5 a1_6 a1_7 a1_8 a1_9 a1_10 t186 t189 _ ?side1 ?side2 A19.out).mono ?_); (case side1 => repeat (first | exact (Kd.C_below HR0.out HB.out) | (with_reducible refine Kd.C_alloc ?_ _) | (with_reducible refine Kd.C_drewN ?_ _) | (with_reducible refine Kd.C_drew ?_))); (case side2 => exact HC0.out); rintro e w22 ⟨v187, rfl, ho0, hb⟩; refine ⟨_, rfl, ?_⟩; have HO188 := Aside0.mk (Kd.S_lower ho0 (below_size (qB1 HB.out GE173.out))); replace BK173 := Aside0.mk (blk_below (qK BK173.out) hb); replace HB := Aside0.mk (below_step (qB1 HB.out GE173.out) hb); (try clear hb); (try clear hb2); (try clear hk); (try clear hi); (try clear ho0)))
     go_ret2
     exact ⟨_, qE, by (with_reducible repeat (first | apply Kd.S_alloc | apply Kd.S_drewN | apply Kd.S_drew)); exact HO188.out, by repeat (first | (with_reducible first | exact HB.out | apply below_alloc | apply pw_below_drewN | apply below_drew1 | refine below_set ?_ GE173.out) | exact HB.out)⟩
    ·rw [if_neg c18] at H
     have c18b0 : (a1_0 == 3) = false := beq_eq_false_iff_ne.mpr c18
     have c18b1 : (a1_0 != 3) = true := bne_iff_ne.mpr c18
     by_cases c23 : a1_0 = 4
     ·rw [if_pos c23] at H
      have c23b0 : (a1_0 == 4) = true := beq_iff_eq.mpr c23
      have c23b1 : (a1_0 != 4) = false := bne_eq_false_iff_eq.mpr c23
      clear c23
      replace H := Option.bind_eq_some_iff.mp H
      obtain ⟨⟨t190, t191⟩, A240, H⟩ := H
      replace H : (some (t190, t191)) = some (r1, r2) := H
      have A24 := Aside0.mk A240
      clear A240
      simp only [Option.some.injEq, Prod.mk.injEq] at H
      obtain ⟨rfl, rfl⟩ := H
      go_enter Tryz.func9, Tryz.ntmps9
      go_wp2_with (first | ((with_reducible refine gate_dst (N := 3) rfl ?_); refine box_event ?hg (N := 3) ?hd (cs := #[.int .i64 a1_0, .int .i64 a1_1, .string a1_2, .string a1_3, .bool a1_4, .string a1_5, .int .i64 a1_6, .bool a1_7, .int .i64 a1_8, .int .i64 a1_9, .int .i64 a1_10]) (t := 26) ?hr ?_; (case hd => rfl); (case hg => rfl); (case hr => first | (go_simp; done) | (go_simp; rfl)); intro gb173 hg w25 hbox hb; have n0_ := Aside0.mk (below_step (qB HB.out) hb); have n1_ := Aside0.mk (hbox); have n2_ := Aside0.mk ((qs hg (below_size (qB HB.out)) : w.heap.size ≤ gb173)); have n3_ := Aside0.mk ((qs hg (below_size (qB HB.out)) : w.heap.size ≤ gb173)); clear HB; have HB := n0_; have BK173 := n1_; have GW173 := n2_; have GE173 := n3_; clear n0_ n1_ n2_ n3_ hb hbox hg; have hcz26 := qC11 BK173.out) | ((with_reducible refine gate_callee (f := 22) rfl ?_); refine goesL_ (some 53) rfl rfl Tryz.func22 qr rfl #[.slice A0 l0.length c0, .string a1_2, .string a1_3] rfl qG ?_; (with_reducible refine (names_DropToxic.calls _ _ l0 a1_2 a1_3 t190 t191 _ ?side1 ?side2 A24.out).mono ?_); (case side1 => repeat (first | exact (Kd.C_below HR0.out HB.out) | (with_reducible refine Kd.C_alloc ?_ _) | (with_reducible refine Kd.C_drewN ?_ _) | (with_reducible refine Kd.C_drew ?_))); (case side2 => exact HC0.out); rintro e w27 ⟨v192, rfl, ho0, hb⟩; refine ⟨_, rfl, ?_⟩; have HO193 := Aside0.mk (Kd.S_lower ho0 (below_size (qB1 HB.out GE173.out))); replace BK173 := Aside0.mk (blk_below (qK BK173.out) hb); replace HB := Aside0.mk (below_step (qB1 HB.out GE173.out) hb); (try clear hb); (try clear hb2); (try clear hk); (try clear hi); (try clear ho0)))
      go_ret2
      exact ⟨_, qE, by (with_reducible repeat (first | apply Kd.S_alloc | apply Kd.S_drewN | apply Kd.S_drew)); exact HO193.out, by repeat (first | (with_reducible first | exact HB.out | apply below_alloc | apply pw_below_drewN | apply below_drew1 | refine below_set ?_ GE173.out) | exact HB.out)⟩
     ·rw [if_neg c23] at H
      have c23b0 : (a1_0 == 4) = false := beq_eq_false_iff_ne.mpr c23
      have c23b1 : (a1_0 != 4) = true := bne_iff_ne.mpr c23
      by_cases c28 : a1_0 = 5
      ·rw [if_pos c28] at H
       have c28b0 : (a1_0 == 5) = true := beq_iff_eq.mpr c28
       have c28b1 : (a1_0 != 5) = false := bne_eq_false_iff_eq.mpr c28
       clear c28
       replace H := Option.bind_eq_some_iff.mp H
       obtain ⟨⟨t194, t197⟩, A290, H⟩ := H
       replace H : (some (t194, t197)) = some (r1, r2) := H
       have A29 := Aside0.mk A290
       clear A290
       simp only [Option.some.injEq, Prod.mk.injEq] at H
       obtain ⟨rfl, rfl⟩ := H
       go_enter Tryz.func9, Tryz.ntmps9
       go_wp2_with (first | ((with_reducible refine gate_dst (N := 3) rfl ?_); refine box_event ?hg (N := 3) ?hd (cs := #[.int .i64 a1_0, .int .i64 a1_1, .string a1_2, .string a1_3, .bool a1_4, .string a1_5, .int .i64 a1_6, .bool a1_7, .int .i64 a1_8, .int .i64 a1_9, .int .i64 a1_10]) (t := 26) ?hr ?_; (case hd => rfl); (case hg => rfl); (case hr => first | (go_simp; done) | (go_simp; rfl)); intro gb173 hg w30 hbox hb; have n0_ := Aside0.mk (below_step (qB HB.out) hb); have n1_ := Aside0.mk (hbox); have n2_ := Aside0.mk ((qs hg (below_size (qB HB.out)) : w.heap.size ≤ gb173)); have n3_ := Aside0.mk ((qs hg (below_size (qB HB.out)) : w.heap.size ≤ gb173)); clear HB; have HB := n0_; have BK173 := n1_; have GW173 := n2_; have GE173 := n3_; clear n0_ n1_ n2_ n3_ hb hbox hg; have hcz31 := qC11 BK173.out) | ((with_reducible refine gate_callee (f := 23) rfl ?_); refine goesL_ (some 63) rfl rfl Tryz.func23 qr rfl #[.slice A0 l0.length c0, .string a1_2, .agg #[.string a1_5, .int .i64 a1_6, .bool a1_7, .int .i64 a1_8, .int .i64 a1_9, .int .i64 a1_10]] rfl qG ?_; (with_reducible refine (names_SetToxic.calls _ _ l0 a1_2 a1_5 a1_6 a1_7 a1_8 a1_9 a1_10 t194 t197 _ ?side1 ?side2 A29.out).mono ?_); (case side1 => repeat (first | exact (Kd.C_below HR0.out HB.out) | (with_reducible refine Kd.C_alloc ?_ _) | (with_reducible refine Kd.C_drewN ?_ _) | (with_reducible refine Kd.C_drew ?_))); (case side2 => exact HC0.out); rintro e w32 ⟨v195, rfl, ho0, hb⟩; refine ⟨_, rfl, ?_⟩; have HO196 := Aside0.mk (Kd.S_lower ho0 (below_size (qB1 HB.out GE173.out))); replace BK173 := Aside0.mk (blk_below (qK BK173.out) hb); replace HB := Aside0.mk (below_step (qB1 HB.out GE173.out) hb); (try clear hb); (try clear hb2); (try clear hk); (try clear hi); (try clear ho0)))
       go_ret2
       exact ⟨_, qE, by (with_reducible repeat (first | apply Kd.S_alloc | apply Kd.S_drewN | apply Kd.S_drew)); exact HO196.out, by repeat (first | (with_reducible first | exact HB.out | apply below_alloc | apply pw_below_drewN | apply below_drew1 | refine below_set ?_ GE173.out) | exact HB.out)⟩
      ·rw [if_neg c28] at H
       have c28b0 : (a1_0 == 5) = false := beq_eq_false_iff_ne.mpr c28
       have c28b1 : (a1_0 != 5) = true := bne_iff_ne.mpr c28
       replace H := Option.bind_eq_some_iff.mp H
       obtain ⟨t198, A330, H⟩ := H
       replace H : (some (t198, 0)) = some (r1, r2) := H
       have A33 := Aside0.mk A330
       clear A330
       simp only [Option.some.injEq, Prod.mk.injEq] at H
       obtain ⟨rfl, rfl⟩ := H
       go_enter Tryz.func9, Tryz.ntmps9
       go_wp2_with (first | ((with_reducible refine gate_dst (N := 3) rfl ?_); refine box_event ?hg (N := 3) ?hd (cs := #[.int .i64 a1_0, .int .i64 a1_1, .string a1_2, .string a1_3, .bool a1_4, .string a1_5, .int .i64 a1_6, .bool a1_7, .int .i64 a1_8, .int .i64 a1_9, .int .i64 a1_10]) (t := 26) ?hr ?_; (case hd => rfl); (case hg => rfl); (case hr => first | (go_simp; done) | (go_simp; rfl)); intro gb173 hg w34 hbox hb; have n0_ := Aside0.mk (below_step (qB HB.out) hb); have n1_ := Aside0.mk (hbox); have n2_ := Aside0.mk ((qs hg (below_size (qB HB.out)) : w.heap.size ≤ gb173)); have n3_ := Aside0.mk ((qs hg (below_size (qB HB.out)) : w.heap.size ≤ gb173)); clear HB; have HB := n0_; have BK173 := n1_; have GW173 := n2_; have GE173 := n3_; clear n0_ n1_ n2_ n3_ hb hbox hg; have hcz35 := qC11 BK173.out) | ((with_reducible refine gate_callee (f := 24) rfl ?_); refine goesL_ (some 67) rfl rfl Tryz.func24 qr rfl #[.slice A0 l0.length c0] rfl qG ?_; (with_reducible refine (names_Reset.calls k _ _ l0 t198 _ ?side1 ?side2 A33.out).mono ?_); (case side1 => repeat (first | exact (Kd.C_below HR0.out HB.out) | (with_reducible refine Kd.C_alloc ?_ _) | (with_reducible refine Kd.C_drewN ?_ _) | (with_reducible refine Kd.C_drew ?_))); (case side2 => exact HC0.out); rintro e w36 ⟨v199, rfl, ho0, hb⟩; refine ⟨_, rfl, ?_⟩; have HO200 := Aside0.mk (Kd.S_lower ho0 (below_size (qB1 HB.out GE173.out))); replace BK173 := Aside0.mk (blk_below (qK BK173.out) hb); replace HB := Aside0.mk (below_step (qB1 HB.out GE173.out) hb); (try clear hb); (try clear hb2); (try clear hk); (try clear hi); (try clear ho0)))
       go_ret2
       exact ⟨_, qE, by (with_reducible repeat (first | apply Kd.S_alloc | apply Kd.S_drewN | apply Kd.S_drew)); exact HO200.out, by repeat (first | (with_reducible first | exact HB.out | apply below_alloc | apply pw_below_drewN | apply below_drew1 | refine below_set ?_ GE173.out) | exact HB.out)⟩
def chicaneref14_find.l0 : Nat → List (S24) → ByteArray → Int → Option (Int)
 | 0, _, _, _ => none
 | k + 1, x0, x1, x5 => if x5 < (x0.length : Int) then (if 0 ≤ x5 then (if ((rd_T24 x0 x5).f0).toList = x1.toList then (some x5) else (chicaneref14_find.l0 k x0 x1 (wrap64 (x5 + 1)))) else (none)) else (some (-1))
def chicaneref14_find.f (k : Nat) (l0 : List (S24)) (a1 : ByteArray) : Option (Int) := chicaneref14_find.l0 k l0 a1 0
set_option maxHeartbeats 8000000 in
set_option maxRecDepth 100000 in
theorem chicaneref14_find.calls (k : Nat) (A0 : Option Addr) (c0 : Nat) (l0 : List (S24)) (a1 : ByteArray) (r : Int) (w : World) (hr0 : Kd.C k24 w A0 l0.length l0) (hc0 : l0.length ≤ c0) (h : chicaneref14_find.f k l0 a1 = some r) :
  Calls Tryz.prog 57 #[.slice A0 l0.length c0, .string a1] w fun e w' => e = .returned (.int .i64 r) ∧ Drawn0 w w' := by
 have HR0 := Aside0.mk hr0
 have HC0 := Aside0.mk hc0
 clear hr0 hc0
 have H : (chicaneref14_find.l0 k l0 a1 0) = some r := h
 clear h
 have H' := Aside0.mk H
 clear H
 go_enter Tryz.func57, Tryz.ntmps57
 go_wp2
 go_loopg [5] k (fun kq v5 w' => ∃ (x5_1 : Int), v5 = .int .i64 x5_1 ∧ Aside0 (chicaneref14_find.l0 kq l0 a1 x5_1 = some r) ∧ Aside0 (kq ≤ k) ∧ Drawn0 w w')
 case atStart => exact ⟨(0), qE1, H', ⟨Nat.le_refl _⟩, by repeat (first | exact Drawn0.refl _ | apply Drawn0.step)⟩
 case round =>
  clear H'
  try clear p2
  obtain ⟨x5_1, rfl, HA, HK1, ⟨m1, rfl⟩⟩ := hrel
  cases gk with
  | zero => exact absurd HA.out (by simp [chicaneref14_find.l0])
  | succ k1 =>
   have H := HA.out
   clear HA
   simp only [chicaneref14_find.l0] at H
   by_cases c3 : x5_1 < (l0.length : Int)
   ·rw [if_pos c3] at H
    have c3b0 : decide (x5_1 < (l0.length : Int)) = true := decide_eq_true c3
    clear c3
    by_cases c4 : 0 ≤ x5_1
    ·rw [if_pos c4] at H
     have c4b0 : decide (0 ≤ x5_1) = true := decide_eq_true c4
     clear c4
     by_cases c5 : ((rd_T24 l0 x5_1).f0).toList = a1.toList
     ·rw [if_pos c5] at H
      have c5b0 : (((rd_T24 l0 x5_1).f0).toList == a1.toList) = true := beq_iff_eq.mpr c5
      have c5b1 : (((rd_T24 l0 x5_1).f0).toList != a1.toList) = false := bne_eq_false_iff_eq.mpr c5
      clear c5
      obtain rfl := Option.some.inj H
      have p201 : 0 ≤ (x5_1 : Int) := of_decide_eq_true qA
      have q201 : x5_1 < (l0.length : Int) := of_decide_eq_true qA
      obtain ⟨ad201, e201, hx201_0, hx201_1, hx201_2, hx201_3, hx201_4, hx201_5⟩ := at_T24 HR0.out x5_1 p201 q201
      cases e201
      replace p201 := eq_true p201
      replace q201 := eq_true q201
      go_wp2
      go_ret
      exact ⟨by first | rfl | (simp; done) | (simp [*]; done), by repeat (first | exact Drawn0.refl _ | apply Drawn0.step)⟩
     ·rw [if_neg c5] at H
      have c5b0 : (((rd_T24 l0 x5_1).f0).toList == a1.toList) = false := beq_eq_false_iff_ne.mpr c5
      have c5b1 : (((rd_T24 l0 x5_1).f0).toList != a1.toList) = true := bne_iff_ne.mpr c5
      have H' := Aside0.mk H
      clear H
      have p201 : 0 ≤ (x5_1 : Int) := of_decide_eq_true qA
      have q201 : x5_1 < (l0.length : Int) := of_decide_eq_true qA
      obtain ⟨ad201, e201, hx201_0, hx201_1, hx201_2, hx201_3, hx201_4, hx201_5⟩ := at_T24 HR0.out x5_1 p201 q201
      cases e201
      replace p201 := eq_true p201
      replace q201 := eq_true q201
      go_wp2
      go_roundg k1
      case measure => have := HK1.out; omega
      case rel => exact ⟨(wrap64 (x5_1 + 1)), qE1, H', ⟨by have := HK1.out; omega⟩, by repeat (first | exact Drawn0.refl _ | apply Drawn0.step)⟩
    ·rw [if_neg c4] at H
     exact absurd H (by simp)
   ·rw [if_neg c3] at H
    have c3b0 : decide (x5_1 < (l0.length : Int)) = false := decide_eq_false c3
    clear c3
    obtain rfl := Option.some.inj H
    go_wp2
    go_ret
    exact ⟨by first | rfl | (simp; done) | (simp [*]; done), by repeat (first | exact Drawn0.refl _ | apply Drawn0.step)⟩
end Go.Proofs.YtlglbpjccpdloaaGreat.PNamA
namespace Go.Proofs.YtlglbpjccpdloaaGreat.PNamA
open Go.Proofs.YtlglbpjccpdloaaGreat.Ext Go.Proofs.YtlglbpjccpdloaaGreat.ToxZ Go.RowKit Go.Proofs.YtlglbpjccpdloaaGreatW.PrintWords Go.Proofs.YtlglbpjccpdloaaGreatW.PrintLast Go.Proofs.YtlglbpjccpdloaaGreatW.PrintMore Go.Proofs.YtlglbpjccpdloaaGreat.Sq
attribute [local go_sem] max2_int min2_int max_two min_two max_three min_three max_four min_four   -- for this text's walks alone
set_option linter.unusedVariables false
set_option linter.unusedSimpArgs false
mutual
def chicaneref14_Check.j0 : Nat → Bool → ByteArray → Bool → Int → List (S24) → Option (Int)
 | 0, _, _, _, _, _ => none
 | k + 1, x17, x203000, x203001, x203002, x203003 => if x17 = true then (some 144) else (if (x203003.length : Int) > 8 then (some 143) else (chicaneref14_Check.l0 k 0 x203000 x203001 x203002 x203003))
def chicaneref14_Check.l0 : Nat → Int → ByteArray → Bool → Int → List (S24) → Option (Int)
 | 0, _, _, _, _, _ => none
 | k + 1, x3, x203000, x203001, x203002, x203003 => if x3 < (x203003.length : Int) then (if 0 ≤ x3 then ((chicaneref09_Check.f ((rd_T24 x203003 x3).f0) ((rd_T24 x203003 x3).f1) ((rd_T24 x203003 x3).f2) ((rd_T24 x203003 x3).f3) ((rd_T24 x203003 x3).f4) ((rd_T24 x203003 x3).f5)).bind fun t205 => (if t205 = 0 then (chicaneref14_Check.l0 k (wrap64 (x3 + 1)) x203000 x203001 x203002 x203003) else (some t205))) else (none)) else (chicaneref14_Check.l1 k 0 x203000 x203001 x203002 x203003)
def chicaneref14_Check.l1 : Nat → Int → ByteArray → Bool → Int → List (S24) → Option (Int)
 | 0, _, _, _, _, _ => none
 | k + 1, x5, x203000, x203001, x203002, x203003 => if x5 < (x203003.length : Int) then (if 0 ≤ x5 then (if x5 ≤ (x203003.length : Int) then ((chicaneref14_find.f k (x203003.take (x5 : Int).toNat) ((rd_T24 x203003 x5).f0)).bind fun t211 => (if t211 ≥ 0 then (some 141) else (chicaneref14_Check.l1 k (wrap64 (x5 + 1)) x203000 x203001 x203002 x203003))) else (none)) else (none)) else (some 0)
end
def chicaneref14_Check.f (k : Nat) (a0_0 : ByteArray) (a0_1 : Bool) (a0_2 : Int) (l0_3 : List (S24)) : Option (Int) := (chicaneref09_Name.f a0_0).bind fun t203 => (if t203 = true then (if a0_2 < 1 then (chicaneref14_Check.j0 k true a0_0 a0_1 a0_2 l0_3) else (chicaneref14_Check.j0 k (decide (a0_2 > 16)) a0_0 a0_1 a0_2 l0_3)) else (some 140))
set_option maxHeartbeats 8000000 in
set_option maxRecDepth 100000 in
theorem chicaneref14_Check.calls (k : Nat) (a0_0 : ByteArray) (a0_1 : Bool) (a0_2 : Int) (A0_3 : Option Addr) (c0_3 : Nat) (l0_3 : List (S24)) (r : Int) (w : World) (hr0_3 : Kd.C k24 w A0_3 l0_3.length l0_3) (hc0_3 : l0_3.length ≤ c0_3) (h : chicaneref14_Check.f k a0_0 a0_1 a0_2 l0_3 = some r) :
  Calls Tryz.prog 27 #[.agg #[.string a0_0, .bool a0_1, .int .i64 a0_2, .slice A0_3 l0_3.length c0_3]] w fun e w' => e = .returned (.int .i64 r) ∧ Below w.heap.size w w' := by
 have hu39 := Tryz.underlying39
 have hu24 := Tryz.underlying24
 have HR0_3 := Aside0.mk hr0_3
 have HC0_3 := Aside0.mk hc0_3
 clear hr0_3 hc0_3
 have HB := Aside0.mk (Below.refl w.heap.size w)
 have H : ((chicaneref09_Name.f a0_0).bind fun t203 => (if t203 = true then (if a0_2 < 1 then (chicaneref14_Check.j0 k true a0_0 a0_1 a0_2 l0_3) else (chicaneref14_Check.j0 k (decide (a0_2 > 16)) a0_0 a0_1 a0_2 l0_3)) else (some 140))) = some r := h
 clear h
 replace H := Option.bind_eq_some_iff.mp H
 obtain ⟨t203, A20, H⟩ := H
 replace H : (if t203 = true then (if a0_2 < 1 then (chicaneref14_Check.j0 k true a0_0 a0_1 a0_2 l0_3) else (chicaneref14_Check.j0 k (decide (a0_2 > 16)) a0_0 a0_1 a0_2 l0_3)) else (some 140)) = some r := H
 have A2 := Aside0.mk A20
 clear A20
 by_cases c3 : t203 = true
 ·subst c3
  have H1 : (if a0_2 < 1 then (chicaneref14_Check.j0 k true a0_0 a0_1 a0_2 l0_3) else (chicaneref14_Check.j0 k (decide (a0_2 > 16)) a0_0 a0_1 a0_2 l0_3)) = some r := by rw [if_pos rfl] at H; exact H
  clear H
  have H := H1
  clear H1
  have HC4 := Aside0.mk H
  clear H
  go_enter Tryz.func27, Tryz.ntmps27
  go_upto_region 3 with (first | ((with_reducible refine gate_dst (N := 1) rfl ?_); refine box_event ?hg (N := 1) ?hd (cs := #[.string a0_0, .bool a0_1, .int .i64 a0_2, .slice A0_3 l0_3.length c0_3]) (t := 39) ?hr ?_; (case hd => rfl); (case hg => rfl); (case hr => first | (go_simp; done) | (go_simp; rfl)); intro gb202 hg w5 hbox hb; have n0_ := Aside0.mk (below_step (qB HB.out) hb); have n1_ := Aside0.mk (hbox); have n2_ := Aside0.mk ((qs hg (below_size (qB HB.out)) : w.heap.size ≤ gb202)); have n3_ := Aside0.mk ((qs hg (below_size (qB HB.out)) : w.heap.size ≤ gb202)); clear HB; have HB := n0_; have BK202 := n1_; have GW202 := n2_; have GE202 := n3_; clear n0_ n1_ n2_ n3_ hb hbox hg; have hcz6 := qC4 BK202.out) | (go_at_call 54; (with_reducible refine (chicaneref09_Name.calls a0_0 true _ A2.out).mono ?_); rintro e w7 ⟨rfl, hb⟩; replace BK202 := Aside0.mk (blk_below (qK BK202.out) hb); replace HB := Aside0.mk (below_step (qB1 HB.out GE202.out) hb); (try clear hb); (try clear hb2); (try clear hk); (try clear hi)))
  repeat (go_quiet (first | ((with_reducible refine gate_dst (N := 1) rfl ?_); refine box_event ?hg (N := 1) ?hd (cs := #[.string a0_0, .bool a0_1, .int .i64 a0_2, .slice A0_3 l0_3.length c0_3]) (t := 39) ?hr ?_; (case hd => rfl); (case hg => rfl); (case hr => first | (go_simp; done) | (go_simp; rfl)); intro gb202 hg w5 hbox hb; have n0_ := Aside0.mk (below_step (qB HB.out) hb); have n1_ := Aside0.mk (hbox); have n2_ := Aside0.mk ((qs hg (below_size (qB HB.out)) : w.heap.size ≤ gb202)); have n3_ := Aside0.mk ((qs hg (below_size (qB HB.out)) : w.heap.size ≤ gb202)); clear HB; have HB := n0_; have BK202 := n1_; have GW202 := n2_; have GE202 := n3_; clear n0_ n1_ n2_ n3_ hb hbox hg; have hcz6 := qC4 BK202.out) | (go_at_call 54; (with_reducible refine (chicaneref09_Name.calls a0_0 true _ A2.out).mono ?_); rintro e w7 ⟨rfl, hb⟩; replace BK202 := Aside0.mk (blk_below (qK BK202.out) hb); replace HB := Aside0.mk (below_step (qB1 HB.out GE202.out) hb); (try clear hb); (try clear hb2); (try clear hk); (try clear hi))); go_upto_region 3 with (first | ((with_reducible refine gate_dst (N := 1) rfl ?_); refine box_event ?hg (N := 1) ?hd (cs := #[.string a0_0, .bool a0_1, .int .i64 a0_2, .slice A0_3 l0_3.length c0_3]) (t := 39) ?hr ?_; (case hd => rfl); (case hg => rfl); (case hr => first | (go_simp; done) | (go_simp; rfl)); intro gb202 hg w5 hbox hb; have n0_ := Aside0.mk (below_step (qB HB.out) hb); have n1_ := Aside0.mk (hbox); have n2_ := Aside0.mk ((qs hg (below_size (qB HB.out)) : w.heap.size ≤ gb202)); have n3_ := Aside0.mk ((qs hg (below_size (qB HB.out)) : w.heap.size ≤ gb202)); clear HB; have HB := n0_; have BK202 := n1_; have GW202 := n2_; have GE202 := n3_; clear n0_ n1_ n2_ n3_ hb hbox hg; have hcz6 := qC4 BK202.out) | (go_at_call 54; (with_reducible refine (chicaneref09_Name.calls a0_0 true _ A2.out).mono ?_); rintro e w7 ⟨rfl, hb⟩; replace BK202 := Aside0.mk (blk_below (qK BK202.out) hb); replace HB := Aside0.mk (below_step (qB1 HB.out GE202.out) hb); (try clear hb); (try clear hb2); (try clear hk); (try clear hi))))
  (try simp only [Act.put, List.setIfInBounds_toArray, List.set_cons_zero, List.set_cons_succ])
  go_cut [17] (fun v17 wc => ∃ (kq : Nat) (x17_3 : Bool), v17 = .bool x17_3 ∧ Aside0 (chicaneref14_Check.j0 kq x17_3 a0_0 a0_1 a0_2 l0_3 = some r) ∧ Aside0 (kq ≤ k) ∧ Aside0 (wc.heap[gb202]? = some (.cells #[.string a0_0, .bool a0_1, .int .i64 a0_2, (.slice A0_3 l0_3.length c0_3)] 39 (0, 0))) ∧ Aside0 (Below w.heap.size w wc))
  case first =>
   have H := HC4.out
   clear HC4
   by_cases c8 : a0_2 < 1
   ·rw [if_pos c8] at H
    have c8b0 : decide (a0_2 < 1) = true := decide_eq_true c8
    clear c8
    (first | rw [c8b0] | (simp only [i64_w, i32_w]; rw [c8b0]) | skip)
    have H' := Aside0.mk H
    clear H
    have hcz9 := qC4 BK202.out
    go_wp2
    repeat (go_quiet (fail); try go_wp2)
    go_meet
    case rel => exact ⟨_, (true), qE1, H', ⟨by first | omega | exact Nat.le_refl _⟩, ⟨by (with_reducible repeat (first | refine blk_drewN ?_ _ | refine blk_drew ?_ | refine blk_alloc ?_ _)); exact BK202.out⟩, ⟨by repeat (first | (with_reducible first | exact HB.out | apply below_alloc | apply pw_below_drewN | apply below_drew1 | refine below_set ?_ GE202.out) | exact HB.out)⟩⟩
   ·rw [if_neg c8] at H
    have c8b0 : decide (a0_2 < 1) = false := decide_eq_false c8
    clear c8
    (first | rw [c8b0] | (simp only [i64_w, i32_w]; rw [c8b0]) | skip)
    have H' := Aside0.mk H
    clear H
    have hcz10 := qC4 BK202.out
    go_wp2
    repeat (go_quiet (fail); try go_wp2)
    go_meet
    case rel => exact ⟨_, (decide (a0_2 > 16)), qE1, H', ⟨by first | omega | exact Nat.le_refl _⟩, ⟨by (with_reducible repeat (first | refine blk_drewN ?_ _ | refine blk_drew ?_ | refine blk_alloc ?_ _)); exact BK202.out⟩, ⟨by repeat (first | (with_reducible first | exact HB.out | apply below_alloc | apply pw_below_drewN | apply below_drew1 | refine below_set ?_ GE202.out) | exact HB.out)⟩⟩
  case rest =>
   clear HC4
   try clear c2
   try clear p2
   try clear c3
   try clear c8
   try clear c8b0
   try clear hcz10
   try clear hcz6
   try clear hcz9
   obtain ⟨kq, x17_3, rfl, HA, HJ3, BK202, HB⟩ := hcut
   cases kq with
   | zero => exact absurd HA.out (by simp [chicaneref14_Check.j0])
   | succ kj3 =>
    have H := HA.out
    clear HA
    simp only [chicaneref14_Check.j0] at H
    by_cases c11 : x17_3 = true
    ·subst c11
     have H1 : (some 144) = some r := by rw [if_pos rfl] at H; exact H
     clear H
     have H := H1
     clear H1
     obtain rfl := Option.some.inj H
     go_wp2
     repeat (go_quiet (fail); try go_wp2)
     go_ret
     exact ⟨qE, by repeat (first | (with_reducible first | exact HB.out | apply below_alloc | apply pw_below_drewN | apply below_drew1 | refine below_set ?_ GE202.out) | exact HB.out)⟩
    ·replace c11 := Bool.eq_false_iff.mpr c11
     subst c11
     have H1 : (if (l0_3.length : Int) > 8 then (some 143) else (chicaneref14_Check.l0 kj3 0 a0_0 a0_1 a0_2 l0_3)) = some r := by rw [if_neg (show ¬ (false = true) by decide)] at H; exact H
     clear H
     have H := H1
     clear H1
     by_cases c12 : (l0_3.length : Int) > 8
     ·rw [if_pos c12] at H
      have c12b0 : decide (8 < (l0_3.length : Int)) = true := decide_eq_true c12
      have c12b1 : decide (8 < l0_3.length) = true := decide_eq_true (by omega)
      clear c12
      obtain rfl := Option.some.inj H
      have hcz13 := qC4 BK202.out
      go_wp2
      repeat (go_quiet (fail); try go_wp2)
      go_ret
      exact ⟨qE, by repeat (first | (with_reducible first | exact HB.out | apply below_alloc | apply pw_below_drewN | apply below_drew1 | refine below_set ?_ GE202.out) | exact HB.out)⟩
     ·rw [if_neg c12] at H
      have c12b0 : decide (8 < (l0_3.length : Int)) = false := decide_eq_false c12
      have c12b1 : decide (8 < l0_3.length) = false := decide_eq_false (by omega)
      clear c12
      have H' := Aside0.mk H
      clear H
      have hcz14 := qC4 BK202.out
      go_wp2
      repeat (go_quiet (fail); try go_wp2)
      go_loopg [3] kj3 (fun kq v3 w' => ∃ (x3_2 : Int), v3 = .int .i64 x3_2 ∧ Aside0 (chicaneref14_Check.l0 kq x3_2 a0_0 a0_1 a0_2 l0_3 = some r) ∧ Aside0 (kq ≤ kj3) ∧ Aside0 (w'.heap[gb202]? = some (.cells #[.string a0_0, .bool a0_1, .int .i64 a0_2, (.slice A0_3 l0_3.length c0_3)] 39 (0, 0))) ∧ Aside0 (Below w.heap.size w w'))
      case atStart => exact ⟨(0), qE1, H', ⟨Nat.le_refl _⟩, ⟨by (with_reducible repeat (first | refine blk_drewN ?_ _ | refine blk_drew ?_ | refine blk_alloc ?_ _)); exact BK202.out⟩, ⟨by repeat (first | (with_reducible first | exact HB.out | apply below_alloc | apply pw_below_drewN | apply below_drew1 | refine below_set ?_ GE202.out) | exact HB.out)⟩⟩
      case round =>
       clear H'
       try clear c1
       try clear c2
       try clear p2
       try clear c3
       try clear c8
       try clear c8b0
       try clear c11
       try clear c12
       try clear c12b0
       try clear c12b1
       try clear hcz10
       try clear hcz13
       try clear hcz14
       try clear hcz6
       try clear hcz9
       try clear p2
       obtain ⟨x3_2, rfl, HA, HK2, BK202, HB⟩ := hrel
       cases gk with
       | zero => exact absurd HA.out (by simp [chicaneref14_Check.l0])
       | succ k2 =>
        have H := HA.out
        clear HA
        simp only [chicaneref14_Check.l0] at H
        by_cases c15 : x3_2 < (l0_3.length : Int)
        ·rw [if_pos c15] at H
         have c15b0 : decide (x3_2 < (l0_3.length : Int)) = true := decide_eq_true c15
         clear c15
         by_cases c16 : 0 ≤ x3_2
         ·rw [if_pos c16] at H
          have c16b0 : decide (0 ≤ x3_2) = true := decide_eq_true c16
          clear c16
          replace H := Option.bind_eq_some_iff.mp H
          obtain ⟨t205, A170, H⟩ := H
          replace H : (if t205 = 0 then (chicaneref14_Check.l0 k2 (wrap64 (x3_2 + 1)) a0_0 a0_1 a0_2 l0_3) else (some t205)) = some r := H
          have A17 := Aside0.mk A170
          clear A170
          by_cases c18 : t205 = 0
          ·rw [if_pos c18] at H
           have c18b0 : (t205 == 0) = true := beq_iff_eq.mpr c18
           have c18b1 : (t205 != 0) = false := bne_eq_false_iff_eq.mpr c18
           clear c18
           have H' := Aside0.mk H
           clear H
           have hcz19 := qC4 BK202.out
           have p204 : 0 ≤ (x3_2 : Int) := of_decide_eq_true qA
           have q204 : x3_2 < (l0_3.length : Int) := of_decide_eq_true qA
           obtain ⟨ad204, e204, hx204_0, hx204_1, hx204_2, hx204_3, hx204_4, hx204_5⟩ := at_T24 HR0_3.out x3_2 p204 q204
           cases e204
           replace hx204_0 := (HB.out.cell (World.block_lt_of_cell? w _ hx204_0)).trans hx204_0
           replace hx204_1 := (HB.out.cell (World.block_lt_of_cell? w _ hx204_1)).trans hx204_1
           replace hx204_2 := (HB.out.cell (World.block_lt_of_cell? w _ hx204_2)).trans hx204_2
           replace hx204_3 := (HB.out.cell (World.block_lt_of_cell? w _ hx204_3)).trans hx204_3
           replace hx204_4 := (HB.out.cell (World.block_lt_of_cell? w _ hx204_4)).trans hx204_4
           replace hx204_5 := (HB.out.cell (World.block_lt_of_cell? w _ hx204_5)).trans hx204_5
           replace p204 := eq_true p204
           replace q204 := eq_true q204
           go_wp2_with (first | (go_at_call 56; (with_reducible refine (chicaneref09_Check.calls ((rd_T24 l0_3 x3_2).f0) ((rd_T24 l0_3 x3_2).f1) ((rd_T24 l0_3 x3_2).f2) ((rd_T24 l0_3 x3_2).f3) ((rd_T24 l0_3 x3_2).f4) ((rd_T24 l0_3 x3_2).f5) t205 _ A17.out).mono ?_); rintro e w20 ⟨rfl, hb⟩; replace BK202 := Aside0.mk (blk_below (qK BK202.out) hb); replace HB := Aside0.mk (below_step (qB1 HB.out GE202.out) hb); (try clear hb); (try clear hb2); (try clear hk); (try clear hi)))
           repeat (go_quiet (first | (go_at_call 56; (with_reducible refine (chicaneref09_Check.calls ((rd_T24 l0_3 x3_2).f0) ((rd_T24 l0_3 x3_2).f1) ((rd_T24 l0_3 x3_2).f2) ((rd_T24 l0_3 x3_2).f3) ((rd_T24 l0_3 x3_2).f4) ((rd_T24 l0_3 x3_2).f5) t205 _ A17.out).mono ?_); rintro e w20 ⟨rfl, hb⟩; replace BK202 := Aside0.mk (blk_below (qK BK202.out) hb); replace HB := Aside0.mk (below_step (qB1 HB.out GE202.out) hb); (try clear hb); (try clear hb2); (try clear hk); (try clear hi))); try go_wp2_with (first | (go_at_call 56; (with_reducible refine (chicaneref09_Check.calls ((rd_T24 l0_3 x3_2).f0) ((rd_T24 l0_3 x3_2).f1) ((rd_T24 l0_3 x3_2).f2) ((rd_T24 l0_3 x3_2).f3) ((rd_T24 l0_3 x3_2).f4) ((rd_T24 l0_3 x3_2).f5) t205 _ A17.out).mono ?_); rintro e w20 ⟨rfl, hb⟩; replace BK202 := Aside0.mk (blk_below (qK BK202.out) hb); replace HB := Aside0.mk (below_step (qB1 HB.out GE202.out) hb); (try clear hb); (try clear hb2); (try clear hk); (try clear hi))))
           go_roundg k2
           case measure => have := HJ3.out; have := HK2.out; omega
           case rel => exact ⟨(wrap64 (x3_2 + 1)), qE1, H', ⟨by have := HJ3.out; have := HK2.out; omega⟩, ⟨by (with_reducible repeat (first | refine blk_drewN ?_ _ | refine blk_drew ?_ | refine blk_alloc ?_ _)); exact BK202.out⟩, ⟨by repeat (first | (with_reducible first | exact HB.out | apply below_alloc | apply pw_below_drewN | apply below_drew1 | refine below_set ?_ GE202.out) | exact HB.out)⟩⟩
          ·rw [if_neg c18] at H
           have c18b0 : (t205 == 0) = false := beq_eq_false_iff_ne.mpr c18
           have c18b1 : (t205 != 0) = true := bne_iff_ne.mpr c18
           obtain rfl := Option.some.inj H
           have hcz21 := qC4 BK202.out
           have p204 : 0 ≤ (x3_2 : Int) := of_decide_eq_true qA
           have q204 : x3_2 < (l0_3.length : Int) := of_decide_eq_true qA
           obtain ⟨ad204, e204, hx204_0, hx204_1, hx204_2, hx204_3, hx204_4, hx204_5⟩ := at_T24 HR0_3.out x3_2 p204 q204
           cases e204
           replace hx204_0 := (HB.out.cell (World.block_lt_of_cell? w _ hx204_0)).trans hx204_0
           replace hx204_1 := (HB.out.cell (World.block_lt_of_cell? w _ hx204_1)).trans hx204_1
           replace hx204_2 := (HB.out.cell (World.block_lt_of_cell? w _ hx204_2)).trans hx204_2
           replace hx204_3 := (HB.out.cell (World.block_lt_of_cell? w _ hx204_3)).trans hx204_3
           replace hx204_4 := (HB.out.cell (World.block_lt_of_cell? w _ hx204_4)).trans hx204_4
           replace hx204_5 := (HB.out.cell (World.block_lt_of_cell? w _ hx204_5)).trans hx204_5
           replace p204 := eq_true p204
           replace q204 := eq_true q204
           go_wp2_with (first | (go_at_call 56; (with_reducible refine (chicaneref09_Check.calls ((rd_T24 l0_3 x3_2).f0) ((rd_T24 l0_3 x3_2).f1) ((rd_T24 l0_3 x3_2).f2) ((rd_T24 l0_3 x3_2).f3) ((rd_T24 l0_3 x3_2).f4) ((rd_T24 l0_3 x3_2).f5) t205 _ A17.out).mono ?_); rintro e w22 ⟨rfl, hb⟩; replace BK202 := Aside0.mk (blk_below (qK BK202.out) hb); replace HB := Aside0.mk (below_step (qB1 HB.out GE202.out) hb); (try clear hb); (try clear hb2); (try clear hk); (try clear hi)))
           repeat (go_quiet (first | (go_at_call 56; (with_reducible refine (chicaneref09_Check.calls ((rd_T24 l0_3 x3_2).f0) ((rd_T24 l0_3 x3_2).f1) ((rd_T24 l0_3 x3_2).f2) ((rd_T24 l0_3 x3_2).f3) ((rd_T24 l0_3 x3_2).f4) ((rd_T24 l0_3 x3_2).f5) t205 _ A17.out).mono ?_); rintro e w22 ⟨rfl, hb⟩; replace BK202 := Aside0.mk (blk_below (qK BK202.out) hb); replace HB := Aside0.mk (below_step (qB1 HB.out GE202.out) hb); (try clear hb); (try clear hb2); (try clear hk); (try clear hi))); try go_wp2_with (first | (go_at_call 56; (with_reducible refine (chicaneref09_Check.calls ((rd_T24 l0_3 x3_2).f0) ((rd_T24 l0_3 x3_2).f1) ((rd_T24 l0_3 x3_2).f2) ((rd_T24 l0_3 x3_2).f3) ((rd_T24 l0_3 x3_2).f4) ((rd_T24 l0_3 x3_2).f5) t205 _ A17.out).mono ?_); rintro e w22 ⟨rfl, hb⟩; replace BK202 := Aside0.mk (blk_below (qK BK202.out) hb); replace HB := Aside0.mk (below_step (qB1 HB.out GE202.out) hb); (try clear hb); (try clear hb2); (try clear hk); (try clear hi))))
           go_ret
           exact ⟨qE, by repeat (first | (with_reducible first | exact HB.out | apply below_alloc | apply pw_below_drewN | apply below_drew1 | refine below_set ?_ GE202.out) | exact HB.out)⟩
         ·rw [if_neg c16] at H
          exact absurd H (by simp)
        ·rw [if_neg c15] at H
         have c15b0 : decide (x3_2 < (l0_3.length : Int)) = false := decide_eq_false c15
         clear c15
         have H' := Aside0.mk H
         clear H
         have hcz23 := qC4 BK202.out
         go_wp2
         repeat (go_quiet (fail); try go_wp2)
         go_loopg [5] k2 (fun kq v5 w' => ∃ (x5_3 : Int), v5 = .int .i64 x5_3 ∧ Aside0 (chicaneref14_Check.l1 kq x5_3 a0_0 a0_1 a0_2 l0_3 = some r) ∧ Aside0 (kq ≤ k2) ∧ Aside0 (w'.heap[gb202]? = some (.cells #[.string a0_0, .bool a0_1, .int .i64 a0_2, (.slice A0_3 l0_3.length c0_3)] 39 (0, 0))) ∧ Aside0 (Below w.heap.size w w'))
         case atStart => exact ⟨(0), qE1, H', ⟨Nat.le_refl _⟩, ⟨by (with_reducible repeat (first | refine blk_drewN ?_ _ | refine blk_drew ?_ | refine blk_alloc ?_ _)); exact BK202.out⟩, ⟨by repeat (first | (with_reducible first | exact HB.out | apply below_alloc | apply pw_below_drewN | apply below_drew1 | refine below_set ?_ GE202.out) | exact HB.out)⟩⟩
         case round =>
          clear H'
          try clear c1
          try clear c2
          try clear p2
          try clear q2
          try clear hx2
          try clear c3
          try clear p6
          try clear c8
          try clear c8b0
          try clear c11
          try clear c12
          try clear c12b0
          try clear c12b1
          try clear c15
          try clear c15b0
          try clear c16
          try clear c16b0
          try clear c18
          try clear c18b0
          try clear c18b1
          try clear p20
          try clear q20
          try clear hx20
          try clear hcz10
          try clear hcz13
          try clear hcz14
          try clear hcz19
          try clear hcz21
          try clear hcz23
          try clear hcz6
          try clear hcz9
          try clear hx204_0
          try clear hx204_1
          try clear hx204_2
          try clear hx204_3
          try clear hx204_4
          try clear hx204_5
          try clear p2
          try clear p204
          try clear q204
          obtain ⟨x5_3, rfl, HA, HK3, BK202, HB⟩ := hrel
          cases gk with
          | zero => exact absurd HA.out (by simp [chicaneref14_Check.l1])
          | succ k3 =>
           have H := HA.out
           clear HA
           simp only [chicaneref14_Check.l1] at H
           by_cases c24 : x5_3 < (l0_3.length : Int)
           ·rw [if_pos c24] at H
            have c24b0 : decide (x5_3 < (l0_3.length : Int)) = true := decide_eq_true c24
            clear c24
            by_cases c25 : 0 ≤ x5_3
            ·rw [if_pos c25] at H
             have c25b0 := eq_true c25
             have c25b1 : decide (0 ≤ x5_3) = true := decide_eq_true c25
             clear c25
             by_cases c26 : x5_3 ≤ (l0_3.length : Int)
             ·rw [if_pos c26] at H
              have c26b0 := eq_true c26
              have c26b1 : decide (x5_3 ≤ (l0_3.length : Int)) = true := decide_eq_true c26
              clear c26
              obtain ⟨y206, hy206⟩ : ∃ y_ : List (S24), y_ = (l0_3.take (x5_3 : Int).toNat) := ⟨_, rfl⟩
              replace H : ((chicaneref14_find.f k3 y206 ((rd_T24 l0_3 x5_3).f0)).bind fun t211 => (if t211 ≥ 0 then (some 141) else (chicaneref14_Check.l1 k3 (wrap64 (x5_3 + 1)) a0_0 a0_1 a0_2 l0_3))) = some r := by first | (rw [hy206]; with_reducible exact H) | (have H2_ := (Option.bind_some _ _).symm.trans H; rw [hy206]; with_reducible exact H2_) | (have H2_ := (Option.bind_some _ _).symm.trans H; with_reducible exact H2_) | with_reducible exact H | (rw [hy206]; exact H) | exact H
              have Ny206 := Aside0.mk hy206
              clear hy206
              replace H := Option.bind_eq_some_iff.mp H
              obtain ⟨t211, A270, H⟩ := H
              replace H : (if t211 ≥ 0 then (some 141) else (chicaneref14_Check.l1 k3 (wrap64 (x5_3 + 1)) a0_0 a0_1 a0_2 l0_3)) = some r := H
              have A27 := Aside0.mk A270
              clear A270
              by_cases c28 : t211 ≥ 0
              ·rw [if_pos c28] at H
               have c28b0 : decide (0 ≤ t211) = true := decide_eq_true c28
               clear c28
               obtain rfl := Option.some.inj H
               have hcz29 := qC4 BK202.out
               have q30 : (x5_3 : Int) ≤ ((l0_3.length : Int) : Int) := of_decide_eq_true qA
               obtain ⟨i030, hi030, _, hsz30, _⟩ := info_parts info24
               have hroom30 : l0_3.length ≤ c0_3 := HC0_3.out
               have hC30 : Kd.C k24 _ A0_3 l0_3.length l0_3 := HR0_3.out
               have hcut30 := cut_to (P := Tryz.prog) 37 24 .i64 Tryz.underlying37 hi030 A0_3 l0_3.length c0_3 x5_3 (of_decide_eq_true qA) q30 hroom30
               have hr30 := Kd.C_take (m := (x5_3 : Int).toNat) hC30 (by omega)
               have hy30 : y206.length = (x5_3 : Int).toNat := (by rw [Ny206.out, List.length_take]; omega)
               rw [← Ny206.out] at hr30
               rw [← hy30] at hcut30
               have HR209 := Aside0.mk hr30
               have HC209 := Aside0.mk (show y206.length ≤ c0_3 from by omega)
               clear hr30 hC30 hroom30 hi030 hsz30
               have KY30 := Aside0.mk hy30
               clear hy30
               replace q30 := eq_true q30
               have p210 : 0 ≤ (x5_3 : Int) := of_decide_eq_true qA
               have q210 : x5_3 < (l0_3.length : Int) := of_decide_eq_true qA
               obtain ⟨ad210, e210, hx210_0, hx210_1, hx210_2, hx210_3, hx210_4, hx210_5⟩ := at_T24 HR0_3.out x5_3 p210 q210
               cases e210
               replace hx210_0 := (HB.out.cell (World.block_lt_of_cell? w _ hx210_0)).trans hx210_0
               replace hx210_1 := (HB.out.cell (World.block_lt_of_cell? w _ hx210_1)).trans hx210_1
               replace hx210_2 := (HB.out.cell (World.block_lt_of_cell? w _ hx210_2)).trans hx210_2
               replace hx210_3 := (HB.out.cell (World.block_lt_of_cell? w _ hx210_3)).trans hx210_3
               replace hx210_4 := (HB.out.cell (World.block_lt_of_cell? w _ hx210_4)).trans hx210_4
               replace hx210_5 := (HB.out.cell (World.block_lt_of_cell? w _ hx210_5)).trans hx210_5
               replace p210 := eq_true p210
               replace q210 := eq_true q210
               go_wp2_with (first | (go_at_call 57; (with_reducible refine (chicaneref14_find.calls k3 _ _ y206 ((rd_T24 l0_3 x5_3).f0) t211 _ ?side1 ?side2 A27.out).mono ?_); (case side1 => repeat (first | exact (Kd.C_below HR209.out HB.out) | (with_reducible refine Kd.C_alloc ?_ _) | (with_reducible refine Kd.C_drewN ?_ _) | (with_reducible refine Kd.C_drew ?_))); (case side2 => exact HC209.out); rintro e w' ⟨rfl, ⟨nd, rfl⟩⟩; (try first | exact ⟨rfl, _, World.drewN_drewN _ _ _⟩ | exact ⟨rfl, _, Eq.trans (World.drewN_drewN _ _ _) (congrArg (World.drewN _) (Nat.add_assoc _ _ _))⟩)))
               repeat (go_quiet (first | (go_at_call 57; (with_reducible refine (chicaneref14_find.calls k3 _ _ y206 ((rd_T24 l0_3 x5_3).f0) t211 _ ?side1 ?side2 A27.out).mono ?_); (case side1 => repeat (first | exact (Kd.C_below HR209.out HB.out) | (with_reducible refine Kd.C_alloc ?_ _) | (with_reducible refine Kd.C_drewN ?_ _) | (with_reducible refine Kd.C_drew ?_))); (case side2 => exact HC209.out); rintro e w' ⟨rfl, ⟨nd, rfl⟩⟩; (try first | exact ⟨rfl, _, World.drewN_drewN _ _ _⟩ | exact ⟨rfl, _, Eq.trans (World.drewN_drewN _ _ _) (congrArg (World.drewN _) (Nat.add_assoc _ _ _))⟩))); try go_wp2_with (first | (go_at_call 57; (with_reducible refine (chicaneref14_find.calls k3 _ _ y206 ((rd_T24 l0_3 x5_3).f0) t211 _ ?side1 ?side2 A27.out).mono ?_); (case side1 => repeat (first | exact (Kd.C_below HR209.out HB.out) | (with_reducible refine Kd.C_alloc ?_ _) | (with_reducible refine Kd.C_drewN ?_ _) | (with_reducible refine Kd.C_drew ?_))); (case side2 => exact HC209.out); rintro e w' ⟨rfl, ⟨nd, rfl⟩⟩; (try first | exact ⟨rfl, _, World.drewN_drewN _ _ _⟩ | exact ⟨rfl, _, Eq.trans (World.drewN_drewN _ _ _) (congrArg (World.drewN _) (Nat.add_assoc _ _ _))⟩))))
               go_ret
               exact ⟨qE, by repeat (first | (with_reducible first | exact HB.out | apply below_alloc | apply pw_below_drewN | apply below_drew1 | refine below_set ?_ GE202.out) | exact HB.out)⟩
              ·rw [if_neg c28] at H
               have c28b0 : decide (0 ≤ t211) = false := decide_eq_false c28
               clear c28
               have H' := Aside0.mk H
               clear H
               have hcz31 := qC4 BK202.out
               have q32 : (x5_3 : Int) ≤ ((l0_3.length : Int) : Int) := of_decide_eq_true qA
               obtain ⟨i032, hi032, _, hsz32, _⟩ := info_parts info24
               have hroom32 : l0_3.length ≤ c0_3 := HC0_3.out
               have hC32 : Kd.C k24 _ A0_3 l0_3.length l0_3 := HR0_3.out
               have hcut32 := cut_to (P := Tryz.prog) 37 24 .i64 Tryz.underlying37 hi032 A0_3 l0_3.length c0_3 x5_3 (of_decide_eq_true qA) q32 hroom32
               have hr32 := Kd.C_take (m := (x5_3 : Int).toNat) hC32 (by omega)
               have hy32 : y206.length = (x5_3 : Int).toNat := (by rw [Ny206.out, List.length_take]; omega)
               rw [← Ny206.out] at hr32
               rw [← hy32] at hcut32
               have HR209 := Aside0.mk hr32
               have HC209 := Aside0.mk (show y206.length ≤ c0_3 from by omega)
               clear hr32 hC32 hroom32 hi032 hsz32
               have KY32 := Aside0.mk hy32
               clear hy32
               replace q32 := eq_true q32
               have p210 : 0 ≤ (x5_3 : Int) := of_decide_eq_true qA
               have q210 : x5_3 < (l0_3.length : Int) := of_decide_eq_true qA
               obtain ⟨ad210, e210, hx210_0, hx210_1, hx210_2, hx210_3, hx210_4, hx210_5⟩ := at_T24 HR0_3.out x5_3 p210 q210
               cases e210
               replace hx210_0 := (HB.out.cell (World.block_lt_of_cell? w _ hx210_0)).trans hx210_0
               replace hx210_1 := (HB.out.cell (World.block_lt_of_cell? w _ hx210_1)).trans hx210_1
               replace hx210_2 := (HB.out.cell (World.block_lt_of_cell? w _ hx210_2)).trans hx210_2
               replace hx210_3 := (HB.out.cell (World.block_lt_of_cell? w _ hx210_3)).trans hx210_3
               replace hx210_4 := (HB.out.cell (World.block_lt_of_cell? w _ hx210_4)).trans hx210_4
               replace hx210_5 := (HB.out.cell (World.block_lt_of_cell? w _ hx210_5)).trans hx210_5
               replace p210 := eq_true p210
               replace q210 := eq_true q210
               go_wp2_with (first | (go_at_call 57; (with_reducible refine (chicaneref14_find.calls k3 _ _ y206 ((rd_T24 l0_3 x5_3).f0) t211 _ ?side1 ?side2 A27.out).mono ?_); (case side1 => repeat (first | exact (Kd.C_below HR209.out HB.out) | (with_reducible refine Kd.C_alloc ?_ _) | (with_reducible refine Kd.C_drewN ?_ _) | (with_reducible refine Kd.C_drew ?_))); (case side2 => exact HC209.out); rintro e w' ⟨rfl, ⟨nd, rfl⟩⟩; (try first | exact ⟨rfl, _, World.drewN_drewN _ _ _⟩ | exact ⟨rfl, _, Eq.trans (World.drewN_drewN _ _ _) (congrArg (World.drewN _) (Nat.add_assoc _ _ _))⟩)))
               repeat (go_quiet (first | (go_at_call 57; (with_reducible refine (chicaneref14_find.calls k3 _ _ y206 ((rd_T24 l0_3 x5_3).f0) t211 _ ?side1 ?side2 A27.out).mono ?_); (case side1 => repeat (first | exact (Kd.C_below HR209.out HB.out) | (with_reducible refine Kd.C_alloc ?_ _) | (with_reducible refine Kd.C_drewN ?_ _) | (with_reducible refine Kd.C_drew ?_))); (case side2 => exact HC209.out); rintro e w' ⟨rfl, ⟨nd, rfl⟩⟩; (try first | exact ⟨rfl, _, World.drewN_drewN _ _ _⟩ | exact ⟨rfl, _, Eq.trans (World.drewN_drewN _ _ _) (congrArg (World.drewN _) (Nat.add_assoc _ _ _))⟩))); try go_wp2_with (first | (go_at_call 57; (with_reducible refine (chicaneref14_find.calls k3 _ _ y206 ((rd_T24 l0_3 x5_3).f0) t211 _ ?side1 ?side2 A27.out).mono ?_); (case side1 => repeat (first | exact (Kd.C_below HR209.out HB.out) | (with_reducible refine Kd.C_alloc ?_ _) | (with_reducible refine Kd.C_drewN ?_ _) | (with_reducible refine Kd.C_drew ?_))); (case side2 => exact HC209.out); rintro e w' ⟨rfl, ⟨nd, rfl⟩⟩; (try first | exact ⟨rfl, _, World.drewN_drewN _ _ _⟩ | exact ⟨rfl, _, Eq.trans (World.drewN_drewN _ _ _) (congrArg (World.drewN _) (Nat.add_assoc _ _ _))⟩))))
               go_roundg k3
               case measure => have := HJ3.out; have := HK2.out; have := HK3.out; omega
               case rel => exact ⟨(wrap64 (x5_3 + 1)), qE1, H', ⟨by have := HJ3.out; have := HK2.out; have := HK3.out; omega⟩, ⟨by (with_reducible repeat (first | refine blk_drewN ?_ _ | refine blk_drew ?_ | refine blk_alloc ?_ _)); exact BK202.out⟩, ⟨by repeat (first | (with_reducible first | exact HB.out | apply below_alloc | apply pw_below_drewN | apply below_drew1 | refine below_set ?_ GE202.out) | exact HB.out)⟩⟩
             ·rw [if_neg c26] at H
              exact absurd H (by simp)
            ·rw [if_neg c25] at H
             exact absurd H (by simp)
           ·rw [if_neg c24] at H
            have c24b0 : decide (x5_3 < (l0_3.length : Int)) = false := decide_eq_false c24
            clear c24
            obtain rfl := Option.some.inj H
            have hcz33 := qC4 BK202.out
            go_wp2
            repeat (go_quiet (fail); try go_wp2)
            go_ret
            exact ⟨qE, by repeat (first | (with_reducible first | exact HB.out | apply below_alloc | apply pw_below_drewN | apply below_drew1 | refine below_set ?_ GE202.out) | exact HB.out)⟩
 ·replace c3 := Bool.eq_false_iff.mpr c3
  subst c3
  have H1 : (some 140) = some r := by rw [if_neg (show ¬ (false = true) by decide)] at H; exact H
  clear H
  have H := H1
  clear H1
  obtain rfl := Option.some.inj H
  go_enter Tryz.func27, Tryz.ntmps27
  go_wp2_with (first | ((with_reducible refine gate_dst (N := 1) rfl ?_); refine box_event ?hg (N := 1) ?hd (cs := #[.string a0_0, .bool a0_1, .int .i64 a0_2, .slice A0_3 l0_3.length c0_3]) (t := 39) ?hr ?_; (case hd => rfl); (case hg => rfl); (case hr => first | (go_simp; done) | (go_simp; rfl)); intro gb202 hg w34 hbox hb; have n0_ := Aside0.mk (below_step (qB HB.out) hb); have n1_ := Aside0.mk (hbox); have n2_ := Aside0.mk ((qs hg (below_size (qB HB.out)) : w.heap.size ≤ gb202)); have n3_ := Aside0.mk ((qs hg (below_size (qB HB.out)) : w.heap.size ≤ gb202)); clear HB; have HB := n0_; have BK202 := n1_; have GW202 := n2_; have GE202 := n3_; clear n0_ n1_ n2_ n3_ hb hbox hg; have hcz35 := qC4 BK202.out) | (go_at_call 54; (with_reducible refine (chicaneref09_Name.calls a0_0 false _ A2.out).mono ?_); rintro e w36 ⟨rfl, hb⟩; replace BK202 := Aside0.mk (blk_below (qK BK202.out) hb); replace HB := Aside0.mk (below_step (qB1 HB.out GE202.out) hb); (try clear hb); (try clear hb2); (try clear hk); (try clear hi)))
  repeat (go_quiet (first | ((with_reducible refine gate_dst (N := 1) rfl ?_); refine box_event ?hg (N := 1) ?hd (cs := #[.string a0_0, .bool a0_1, .int .i64 a0_2, .slice A0_3 l0_3.length c0_3]) (t := 39) ?hr ?_; (case hd => rfl); (case hg => rfl); (case hr => first | (go_simp; done) | (go_simp; rfl)); intro gb202 hg w34 hbox hb; have n0_ := Aside0.mk (below_step (qB HB.out) hb); have n1_ := Aside0.mk (hbox); have n2_ := Aside0.mk ((qs hg (below_size (qB HB.out)) : w.heap.size ≤ gb202)); have n3_ := Aside0.mk ((qs hg (below_size (qB HB.out)) : w.heap.size ≤ gb202)); clear HB; have HB := n0_; have BK202 := n1_; have GW202 := n2_; have GE202 := n3_; clear n0_ n1_ n2_ n3_ hb hbox hg; have hcz35 := qC4 BK202.out) | (go_at_call 54; (with_reducible refine (chicaneref09_Name.calls a0_0 false _ A2.out).mono ?_); rintro e w36 ⟨rfl, hb⟩; replace BK202 := Aside0.mk (blk_below (qK BK202.out) hb); replace HB := Aside0.mk (below_step (qB1 HB.out GE202.out) hb); (try clear hb); (try clear hb2); (try clear hk); (try clear hi))); try go_wp2_with (first | ((with_reducible refine gate_dst (N := 1) rfl ?_); refine box_event ?hg (N := 1) ?hd (cs := #[.string a0_0, .bool a0_1, .int .i64 a0_2, .slice A0_3 l0_3.length c0_3]) (t := 39) ?hr ?_; (case hd => rfl); (case hg => rfl); (case hr => first | (go_simp; done) | (go_simp; rfl)); intro gb202 hg w34 hbox hb; have n0_ := Aside0.mk (below_step (qB HB.out) hb); have n1_ := Aside0.mk (hbox); have n2_ := Aside0.mk ((qs hg (below_size (qB HB.out)) : w.heap.size ≤ gb202)); have n3_ := Aside0.mk ((qs hg (below_size (qB HB.out)) : w.heap.size ≤ gb202)); clear HB; have HB := n0_; have BK202 := n1_; have GW202 := n2_; have GE202 := n3_; clear n0_ n1_ n2_ n3_ hb hbox hg; have hcz35 := qC4 BK202.out) | (go_at_call 54; (with_reducible refine (chicaneref09_Name.calls a0_0 false _ A2.out).mono ?_); rintro e w36 ⟨rfl, hb⟩; replace BK202 := Aside0.mk (blk_below (qK BK202.out) hb); replace HB := Aside0.mk (below_step (qB1 HB.out GE202.out) hb); (try clear hb); (try clear hb2); (try clear hk); (try clear hi))))
  go_ret
  exact ⟨qE, by repeat (first | (with_reducible first | exact HB.out | apply below_alloc | apply pw_below_drewN | apply below_drew1 | refine below_set ?_ GE202.out) | exact HB.out)⟩
end Go.Proofs.YtlglbpjccpdloaaGreat.PNamA
namespace Go.Proofs.YtlglbpjccpdloaaGreat.PNamA
open Go.Proofs.YtlglbpjccpdloaaGreat.Ext Go.Proofs.YtlglbpjccpdloaaGreat.ToxZ Go.RowKit Go.Proofs.YtlglbpjccpdloaaGreatW.PrintWords Go.Proofs.YtlglbpjccpdloaaGreatW.PrintLast Go.Proofs.YtlglbpjccpdloaaGreatW.PrintMore Go.Proofs.YtlglbpjccpdloaaGreat.Sq
attribute [local go_sem] max2_int min2_int max_two min_two max_three min_three max_four min_four   -- for this text's walks alone
set_option linter.unusedVariables false
set_option linter.unusedSimpArgs false
def chicaneref14_Right.l0 : Nat → List (S39) → Int → Option (Bool)
 | 0, _, _ => none
 | k + 1, x0, x3 => if x3 < (x0.length : Int) then (if 0 ≤ x3 then ((chicaneref14_Check.f k ((rd_T39 x0 x3).f0) ((rd_T39 x0 x3).f1) ((rd_T39 x0 x3).f2) ((rd_T39 x0 x3).f3)).bind fun t213 => (if t213 = 0 then (if x3 > 0 then (if 0 ≤ (wrap64 (x3 - 1)) then (if (wrap64 (x3 - 1)) < (x0.length : Int) then (if ((Op.bytesLess (((rd_T39 x0 (wrap64 (x3 - 1))).f0).toList) (((rd_T39 x0 x3).f0).toList)) = true) then (chicaneref14_Right.l0 k x0 (wrap64 (x3 + 1))) else (some false)) else (none)) else (none)) else (chicaneref14_Right.l0 k x0 (wrap64 (x3 + 1)))) else (some false))) else (none)) else (some (decide ((x0.length : Int) ≤ 8)))
def chicaneref14_Right.f (k : Nat) (l0 : List (S39)) : Option (Bool) := chicaneref14_Right.l0 k l0 0
def chicaneref14_Right.T4 : Bool × List (List Nat × List Nat) := (true, [([], []), ([], []), ([0, 1], [0, 1]), ([2], [2]), ([3], [3]), ([4], [4]), ([5, 4], [5]), ([6], [6]), ([7, 6], [6, 7]), ([8, 6, 6], [6, 8]), ([9], [9]), ([9], [9]), ([11, 9], [9, 11]), ([10, 12, 9], [9, 10, 12]), ([13, 9], [9, 13]), ([14, 9], [9, 14]), ([9], [9]), ([9], [9]), ([16, 17, 9], [9, 16, 17]), ([18, 9], [9, 18]), ([19, 9], [9, 19]), ([15, 20, 9], [9, 15, 20]), ([21, 9], [9, 21]), ([9, 22, 6], [6, 9, 22]), ([6, 23], [6, 23])])
def chicaneref14_Right.B4 : List Nat := [0, 0, 3, 7, 15, 31, 63, 127, 255, 511, 1023, 1023, 3071, 8191, 16383, 32767, 1023, 1023, 197631, 459775, 984063, 2097151, 4194303, 8388607, 16777215]
theorem chicaneref14_Right.tab4 : rtab .any (opsOf Tryz.f12 4) = chicaneref14_Right.T4 := by kernel_rfl
theorem chicaneref14_Right.bits4 : waitsOk chicaneref14_Right.T4.2 chicaneref14_Right.B4 = true := by kernel_rfl
set_option maxHeartbeats 8000000 in
set_option maxRecDepth 100000 in
theorem chicaneref14_Right.calls (k : Nat) (A0 : Option Addr) (c0 : Nat) (l0 : List (S39)) (r : Bool) (w : World) (hr0 : Kd.C k39 w A0 l0.length l0) (hc0 : l0.length ≤ c0) (h : chicaneref14_Right.f k l0 = some r) :
  Calls Tryz.prog 12 #[.slice A0 l0.length c0] w fun e w' => e = .returned (.bool r) ∧ Below w.heap.size w w' := by
 have hu39 := Tryz.underlying39
 have HR0 := Aside0.mk hr0
 have HC0 := Aside0.mk hc0
 clear hr0 hc0
 have HB := Aside0.mk (Below.refl w.heap.size w)
 have H : (chicaneref14_Right.l0 k l0 0) = some r := h
 clear h
 have H' := Aside0.mk H
 clear H
 go_enter Tryz.func12, Tryz.ntmps12
 go_wp2
 go_loopg [3] k (fun kq v3 w' => ∃ (x3_1 : Int), v3 = .int .i64 x3_1 ∧ Aside0 (chicaneref14_Right.l0 kq l0 x3_1 = some r) ∧ Aside0 (kq ≤ k) ∧ Aside0 (Below w.heap.size w w'))
 case atStart => exact ⟨(0), qE1, H', ⟨Nat.le_refl _⟩, ⟨by repeat (first | (with_reducible first | exact HB.out | apply below_alloc | apply pw_below_drewN | apply below_drew1) | exact HB.out)⟩⟩
 case round =>
  clear H'
  try clear c1
  obtain ⟨x3_1, rfl, HA, HK1, HB⟩ := hrel
  cases gk with
  | zero => exact absurd HA.out (by simp [chicaneref14_Right.l0])
  | succ k1 =>
   have H := HA.out
   clear HA
   simp only [chicaneref14_Right.l0] at H
   by_cases c2 : x3_1 < (l0.length : Int)
   ·rw [if_pos c2] at H
    have c2b0 : decide (x3_1 < (l0.length : Int)) = true := decide_eq_true c2
    clear c2
    by_cases c3 : 0 ≤ x3_1
    ·rw [if_pos c3] at H
     have c3b0 : decide (0 ≤ x3_1) = true := decide_eq_true c3
     clear c3
     replace H := Option.bind_eq_some_iff.mp H
     obtain ⟨t213, A40, H⟩ := H
     replace H : (if t213 = 0 then (if x3_1 > 0 then (if 0 ≤ (wrap64 (x3_1 - 1)) then (if (wrap64 (x3_1 - 1)) < (l0.length : Int) then (if ((Op.bytesLess (((rd_T39 l0 (wrap64 (x3_1 - 1))).f0).toList) (((rd_T39 l0 x3_1).f0).toList)) = true) then (chicaneref14_Right.l0 k1 l0 (wrap64 (x3_1 + 1))) else (some false)) else (none)) else (none)) else (chicaneref14_Right.l0 k1 l0 (wrap64 (x3_1 + 1)))) else (some false)) = some r := H
     have A4 := Aside0.mk A40
     clear A40
     by_cases c5 : t213 = 0
     ·rw [if_pos c5] at H
      have c5b0 : (t213 == 0) = true := beq_iff_eq.mpr c5
      have c5b1 : (t213 != 0) = false := bne_eq_false_iff_eq.mpr c5
      clear c5
      by_cases c6 : x3_1 > 0
      ·rw [if_pos c6] at H
       have c6b0 : decide (0 < x3_1) = true := decide_eq_true c6
       clear c6
       obtain ⟨ji7, hji7⟩ : ∃ j_ : Int, (wrap64 (x3_1 - 1)) = j_ := ⟨_, rfl⟩
       replace H : (if 0 ≤ (ji7) then (if (ji7) < (l0.length : Int) then (if ((Op.bytesLess (((rd_T39 l0 (ji7)).f0).toList) (((rd_T39 l0 x3_1).f0).toList)) = true) then (chicaneref14_Right.l0 k1 l0 (wrap64 (x3_1 + 1))) else (some false)) else (none)) else (none)) = some r := by first | (rw [hji7] at H; exact H) | (simp only [hji7] at H ⊢; exact H)
       (try rw [hji7] at A4)
       have hji7w : (IntKind.i64.wrap (x3_1 - 1)) = ji7 := (i64_w _).trans hji7
       by_cases c8 : 0 ≤ (ji7)
       ·rw [if_pos c8] at H
        have c8b0 : decide (0 ≤ (ji7)) = true := decide_eq_true c8
        clear c8
        by_cases c9 : (ji7) < (l0.length : Int)
        ·rw [if_pos c9] at H
         have c9b0 : decide ((ji7) < (l0.length : Int)) = true := decide_eq_true c9
         clear c9
         by_cases c10 : ((Op.bytesLess (((rd_T39 l0 (ji7)).f0).toList) (((rd_T39 l0 x3_1).f0).toList)) = true)
         ·rw [if_pos c10] at H
          have c10b0 : (Op.bytesLess (((rd_T39 l0 (ji7)).f0).toList) (((rd_T39 l0 x3_1).f0).toList)) = true := c10
          clear c10
          have H' := Aside0.mk H
          clear H
          try go_wp2
          replace HB := Aside0.mk (below_drew1 HB.out)
          have p212 : 0 ≤ (x3_1 : Int) := of_decide_eq_true qA
          have q212 : x3_1 < (l0.length : Int) := of_decide_eq_true qA
          obtain ⟨ad212, A212_3, c212_3, e212, hx212_0, hx212_1, hx212_2, hx212_3, hl212_3, hi212_3⟩ := at_T39 HR0.out x3_1 p212 q212
          have hw212_3 := hx212_3
          have hw212_2 := hx212_2
          have hw212_1 := hx212_1
          have hw212_0 := hx212_0
          cases e212
          replace hx212_0 := (HB.out.cell (World.block_lt_of_cell? w _ hx212_0)).trans hx212_0
          replace hx212_1 := (HB.out.cell (World.block_lt_of_cell? w _ hx212_1)).trans hx212_1
          replace hx212_2 := (HB.out.cell (World.block_lt_of_cell? w _ hx212_2)).trans hx212_2
          replace hx212_3 := (HB.out.cell (World.block_lt_of_cell? w _ hx212_3)).trans hx212_3
          have HR212_3 := Aside0.mk hi212_3
          have HC212_3 := Aside0.mk hl212_3
          clear hi212_3 hl212_3
          replace p212 := eq_true p212
          replace q212 := eq_true q212
          have p214 : 0 ≤ ((ji7) : Int) := of_decide_eq_true qA
          have q214 : (ji7) < (l0.length : Int) := of_decide_eq_true qA
          obtain ⟨ad214, A214_3, c214_3, e214, hx214_0, hx214_1, hx214_2, hx214_3, hl214_3, hi214_3⟩ := at_T39 HR0.out (ji7) p214 q214
          have hw214_3 := hx214_3
          have hw214_2 := hx214_2
          have hw214_1 := hx214_1
          have hw214_0 := hx214_0
          obtain rfl : ad212 = ad214 := (by injection e214)
          replace hx214_0 := (HB.out.cell (World.block_lt_of_cell? w _ hx214_0)).trans hx214_0
          replace hx214_1 := (HB.out.cell (World.block_lt_of_cell? w _ hx214_1)).trans hx214_1
          replace hx214_2 := (HB.out.cell (World.block_lt_of_cell? w _ hx214_2)).trans hx214_2
          replace hx214_3 := (HB.out.cell (World.block_lt_of_cell? w _ hx214_3)).trans hx214_3
          have HR214_3 := Aside0.mk hi214_3
          have HC214_3 := Aside0.mk hl214_3
          clear hi214_3 hl214_3
          replace p214 := eq_true p214
          replace q214 := eq_true q214
          have p215 : 0 ≤ (x3_1 : Int) := of_decide_eq_true qA
          have q215 : x3_1 < (l0.length : Int) := of_decide_eq_true qA
          obtain ⟨ad215, A215_3, c215_3, e215, hx215_0, hx215_1, hx215_2, hx215_3, hl215_3, hi215_3⟩ := at_T39 HR0.out x3_1 p215 q215
          have hw215_3 := hx215_3
          have hw215_2 := hx215_2
          have hw215_1 := hx215_1
          have hw215_0 := hx215_0
          obtain rfl : ad212 = ad215 := (by injection e215)
          replace hx215_0 := (HB.out.cell (World.block_lt_of_cell? w _ hx215_0)).trans hx215_0
          replace hx215_1 := (HB.out.cell (World.block_lt_of_cell? w _ hx215_1)).trans hx215_1
          replace hx215_2 := (HB.out.cell (World.block_lt_of_cell? w _ hx215_2)).trans hx215_2
          replace hx215_3 := (HB.out.cell (World.block_lt_of_cell? w _ hx215_3)).trans hx215_3
          have HR215_3 := Aside0.mk hi215_3
          have HC215_3 := Aside0.mk hl215_3
          clear hi215_3 hl215_3
          replace p215 := eq_true p215
          replace q215 := eq_true q215
          refine start_ (n := 25) (S := fun w' => w'.cell? (ad212.add ((x3_1).toNat * 4)) = some (.string ((rd_T39 l0 x3_1).f0)) ∧ w'.cell? ⟨(ad212.add ((x3_1).toNat * 4)).block, (ad212.add ((x3_1).toNat * 4)).off + 1, none⟩ = some (.bool ((rd_T39 l0 x3_1).f1)) ∧ w'.cell? ⟨(ad212.add ((x3_1).toNat * 4)).block, (ad212.add ((x3_1).toNat * 4)).off + 2, none⟩ = some (.int .i64 ((rd_T39 l0 x3_1).f2)) ∧ w'.cell? ⟨(ad212.add ((x3_1).toNat * 4)).block, (ad212.add ((x3_1).toNat * 4)).off + 3, none⟩ = some (.slice A212_3 ((rd_T39 l0 x3_1).f3).length c212_3) ∧ w'.cell? (ad212.add (((ji7)).toNat * 4)) = some (.string ((rd_T39 l0 (ji7)).f0)) ∧ w'.cell? ⟨(ad212.add (((ji7)).toNat * 4)).block, (ad212.add (((ji7)).toNat * 4)).off + 1, none⟩ = some (.bool ((rd_T39 l0 (ji7)).f1)) ∧ w'.cell? ⟨(ad212.add (((ji7)).toNat * 4)).block, (ad212.add (((ji7)).toNat * 4)).off + 2, none⟩ = some (.int .i64 ((rd_T39 l0 (ji7)).f2)) ∧ w'.cell? ⟨(ad212.add (((ji7)).toNat * 4)).block, (ad212.add (((ji7)).toNat * 4)).off + 3, none⟩ = some (.slice A214_3 ((rd_T39 l0 (ji7)).f3).length c214_3) ∧ w'.cell? (ad212.add ((x3_1).toNat * 4)) = some (.string ((rd_T39 l0 x3_1).f0)) ∧ w'.cell? ⟨(ad212.add ((x3_1).toNat * 4)).block, (ad212.add ((x3_1).toNat * 4)).off + 1, none⟩ = some (.bool ((rd_T39 l0 x3_1).f1)) ∧ w'.cell? ⟨(ad212.add ((x3_1).toNat * 4)).block, (ad212.add ((x3_1).toNat * 4)).off + 2, none⟩ = some (.int .i64 ((rd_T39 l0 x3_1).f2)) ∧ w'.cell? ⟨(ad212.add ((x3_1).toNat * 4)).block, (ad212.add ((x3_1).toNat * 4)).off + 3, none⟩ = some (.slice A215_3 ((rd_T39 l0 x3_1).f3).length c215_3)) (ds := []) #[false, false, false, false, false, false, false, false, false, false, false, false, false, false, false, false, false, false, false, false, false, false, false, false, false] qr rfl rfl ⟨((HB.out.cell (World.block_lt_of_cell? w _ hw212_0)).trans hw212_0), ((HB.out.cell (World.block_lt_of_cell? w _ hw212_1)).trans hw212_1), ((HB.out.cell (World.block_lt_of_cell? w _ hw212_2)).trans hw212_2), ((HB.out.cell (World.block_lt_of_cell? w _ hw212_3)).trans hw212_3), ((HB.out.cell (World.block_lt_of_cell? w _ hw214_0)).trans hw214_0), ((HB.out.cell (World.block_lt_of_cell? w _ hw214_1)).trans hw214_1), ((HB.out.cell (World.block_lt_of_cell? w _ hw214_2)).trans hw214_2), ((HB.out.cell (World.block_lt_of_cell? w _ hw214_3)).trans hw214_3), ((HB.out.cell (World.block_lt_of_cell? w _ hw215_0)).trans hw215_0), ((HB.out.cell (World.block_lt_of_cell? w _ hw215_1)).trans hw215_1), ((HB.out.cell (World.block_lt_of_cell? w _ hw215_2)).trans hw215_2), ((HB.out.cell (World.block_lt_of_cell? w _ hw215_3)).trans hw215_3)⟩ (fun hHeld => ?_); refine with_tabW chicaneref14_Right.tab4 chicaneref14_Right.bits4 (fun HT_ HW_ => ?_)
          generalize wr.drew = w11 at HB HR212_3 HR214_3 HR215_3 hx212_0 hx212_1 hx212_2 hx212_3 hx214_0 hx214_1 hx214_2 hx214_3 hx215_0 hx215_1 hx215_2 hx215_3 hHeld ⊢
          refine qP (i := 0) (N := some 10) HT_.out ?_
          refine qP (i := 1) (N := some 11) HT_.out ?_
          refine qP (i := 2) (N := some 12) HT_.out ?_
          refine take_ (i := 3) (N := some 13) (v := ?_) (a' := ?_) #[true, true, true, true, false, false, false, false, false, false, false, false, false, false, false, false, false, false, false, false, false, false, false, false, false] rfl rfl (take_ofW HT_.out HW_.out qr) (fun _ _ _ h => h) (Or.inl ⟨by rfl, ?_⟩) hHeld ?_ ?_
          rotate_left
          ·rintro w' ⟨s0, s1, s2, s3, s4, s5, s6, s7, s8, s9, s10, s11⟩
           go_simp
           with_reducible rfl
          rotate_left
          ·simp only [Act.put, List.setIfInBounds_toArray, List.set_cons_zero, List.set_cons_succ, i64_w, i32_w]
           rfl
          refine qO (i := 4) (N := some 14) HT_.out (fun K hK => ?_)
          refine goes_ Tryz.func27 qr rfl #[.agg #[.string ((rd_T39 l0 x3_1).f0), .bool ((rd_T39 l0 x3_1).f1), .int .i64 ((rd_T39 l0 x3_1).f2), .slice A212_3 ((rd_T39 l0 x3_1).f3).length c212_3]] (by rfl) rfl rfl qG ?_
          with_reducible refine (chicaneref14_Check.calls k1 ((rd_T39 l0 x3_1).f0) ((rd_T39 l0 x3_1).f1) ((rd_T39 l0 x3_1).f2) _ _ ((rd_T39 l0 x3_1).f3) t213 _ ?side1 ?side2 A4.out).mono ?_
          (case side1 => repeat (first | exact (Kd.C_below HR212_3.out HB.out) | (with_reducible refine Kd.C_alloc ?_ _) | (with_reducible refine Kd.C_drewN ?_ _) | (with_reducible refine Kd.C_drew ?_)))
          (case side2 => exact HC212_3.out)
          rintro e w12 ⟨rfl, hb⟩
          refine ⟨_, rfl, ?_⟩
          replace HB := Aside0.mk (below_step (qB HB.out) hb)
          (try clear hb)
          (try clear hb2)
          (try clear hk)
          (try clear hi)
          refine hK.out _ _ ⟨((HB.out.cell (World.block_lt_of_cell? w _ hw212_0)).trans hw212_0), ((HB.out.cell (World.block_lt_of_cell? w _ hw212_1)).trans hw212_1), ((HB.out.cell (World.block_lt_of_cell? w _ hw212_2)).trans hw212_2), ((HB.out.cell (World.block_lt_of_cell? w _ hw212_3)).trans hw212_3), ((HB.out.cell (World.block_lt_of_cell? w _ hw214_0)).trans hw214_0), ((HB.out.cell (World.block_lt_of_cell? w _ hw214_1)).trans hw214_1), ((HB.out.cell (World.block_lt_of_cell? w _ hw214_2)).trans hw214_2), ((HB.out.cell (World.block_lt_of_cell? w _ hw214_3)).trans hw214_3), ((HB.out.cell (World.block_lt_of_cell? w _ hw215_0)).trans hw215_0), ((HB.out.cell (World.block_lt_of_cell? w _ hw215_1)).trans hw215_1), ((HB.out.cell (World.block_lt_of_cell? w _ hw215_2)).trans hw215_2), ((HB.out.cell (World.block_lt_of_cell? w _ hw215_3)).trans hw215_3)⟩ (fun hHeld => ?_)
          clear hK K
          refine qM (N := some 14) ?_
          refine qP (i := 5) (N := some 15) HT_.out ?_
          refine qP (i := 6) (N := some 16) HT_.out ?_
          refine qP (i := 7) (N := some 17) HT_.out ?_
          refine qP (i := 8) (N := some 18) HT_.out ?_
          refine qP (i := 9) (N := some 19) HT_.out ?_
          refine qP (i := 10) (N := some 20) HT_.out ?_
          refine qP (i := 11) (N := some 21) HT_.out ?_
          refine qP (i := 12) (N := some 22) HT_.out ?_
          refine qP (i := 13) (N := some 23) HT_.out ?_
          refine qP (i := 14) (N := some 24) HT_.out ?_
          refine qP (i := 16) (N := some 26) HT_.out ?_
          refine qP (i := 17) (N := some 27) HT_.out ?_
          refine qP (i := 18) (N := some 28) HT_.out ?_
          refine qP (i := 19) (N := some 29) HT_.out ?_
          refine take_ (i := 15) (N := some 25) (v := ?_) (a' := ?_) #[true, true, true, true, true, true, true, true, true, true, true, true, true, true, true, true, true, true, true, true, false, false, false, false, false] rfl rfl (take_ofW HT_.out HW_.out qr) (fun _ _ _ h => h) (Or.inl ⟨by rfl, ?_⟩) hHeld ?_ ?_
          rotate_left
          ·rintro w' ⟨s0, s1, s2, s3, s4, s5, s6, s7, s8, s9, s10, s11⟩
           go_simp
           with_reducible rfl
          rotate_left
          ·simp only [Act.put, List.setIfInBounds_toArray, List.set_cons_zero, List.set_cons_succ, i64_w, i32_w]
           rfl
          refine take_ (i := 20) (N := some 30) (v := ?_) (a' := ?_) #[true, true, true, true, true, true, true, true, true, true, true, true, true, true, true, true, true, true, true, true, true, false, false, false, false] rfl rfl (take_ofW HT_.out HW_.out qr) (fun _ _ _ h => h) (Or.inl ⟨by rfl, ?_⟩) hHeld ?_ ?_
          rotate_left
          ·rintro w' ⟨s0, s1, s2, s3, s4, s5, s6, s7, s8, s9, s10, s11⟩
           go_simp
           with_reducible rfl
          rotate_left
          ·simp only [Act.put, List.setIfInBounds_toArray, List.set_cons_zero, List.set_cons_succ, i64_w, i32_w]
           rfl
          refine qP (i := 21) (N := some 31) HT_.out ?_
          refine qP (i := 22) (N := some 32) HT_.out ?_
          refine qP (i := 23) (N := some 33) HT_.out ?_
          refine qP (i := 24) (N := some 34) HT_.out ?_
          refine done_ (done_of HT_.out qr) ?_
          try go_wp2
          go_roundg k1
          case measure => have := HK1.out; omega
          case rel => exact ⟨(wrap64 (x3_1 + 1)), qE1, H', ⟨by have := HK1.out; omega⟩, ⟨by repeat (first | (with_reducible first | exact HB.out | apply below_alloc | apply pw_below_drewN | apply below_drew1) | exact HB.out)⟩⟩
         ·rw [if_neg c10] at H
          have c10b0 : (Op.bytesLess (((rd_T39 l0 (ji7)).f0).toList) (((rd_T39 l0 x3_1).f0).toList)) = false := by simpa using c10
          clear c10
          obtain rfl := Option.some.inj H
          try go_wp2
          replace HB := Aside0.mk (below_drew1 HB.out)
          have p212 : 0 ≤ (x3_1 : Int) := of_decide_eq_true qA
          have q212 : x3_1 < (l0.length : Int) := of_decide_eq_true qA
          obtain ⟨ad212, A212_3, c212_3, e212, hx212_0, hx212_1, hx212_2, hx212_3, hl212_3, hi212_3⟩ := at_T39 HR0.out x3_1 p212 q212
          have hw212_3 := hx212_3
          have hw212_2 := hx212_2
          have hw212_1 := hx212_1
          have hw212_0 := hx212_0
          cases e212
          replace hx212_0 := (HB.out.cell (World.block_lt_of_cell? w _ hx212_0)).trans hx212_0
          replace hx212_1 := (HB.out.cell (World.block_lt_of_cell? w _ hx212_1)).trans hx212_1
          replace hx212_2 := (HB.out.cell (World.block_lt_of_cell? w _ hx212_2)).trans hx212_2
          replace hx212_3 := (HB.out.cell (World.block_lt_of_cell? w _ hx212_3)).trans hx212_3
          have HR212_3 := Aside0.mk hi212_3
          have HC212_3 := Aside0.mk hl212_3
          clear hi212_3 hl212_3
          replace p212 := eq_true p212
          replace q212 := eq_true q212
          have p214 : 0 ≤ ((ji7) : Int) := of_decide_eq_true qA
          have q214 : (ji7) < (l0.length : Int) := of_decide_eq_true qA
          obtain ⟨ad214, A214_3, c214_3, e214, hx214_0, hx214_1, hx214_2, hx214_3, hl214_3, hi214_3⟩ := at_T39 HR0.out (ji7) p214 q214
          have hw214_3 := hx214_3
          have hw214_2 := hx214_2
          have hw214_1 := hx214_1
          have hw214_0 := hx214_0
          obtain rfl : ad212 = ad214 := (by injection e214)
          replace hx214_0 := (HB.out.cell (World.block_lt_of_cell? w _ hx214_0)).trans hx214_0
          replace hx214_1 := (HB.out.cell (World.block_lt_of_cell? w _ hx214_1)).trans hx214_1
          replace hx214_2 := (HB.out.cell (World.block_lt_of_cell? w _ hx214_2)).trans hx214_2
          replace hx214_3 := (HB.out.cell (World.block_lt_of_cell? w _ hx214_3)).trans hx214_3
          have HR214_3 := Aside0.mk hi214_3
          have HC214_3 := Aside0.mk hl214_3
          clear hi214_3 hl214_3
          replace p214 := eq_true p214
          replace q214 := eq_true q214
          have p215 : 0 ≤ (x3_1 : Int) := of_decide_eq_true qA
          have q215 : x3_1 < (l0.length : Int) := of_decide_eq_true qA
          obtain ⟨ad215, A215_3, c215_3, e215, hx215_0, hx215_1, hx215_2, hx215_3, hl215_3, hi215_3⟩ := at_T39 HR0.out x3_1 p215 q215
          have hw215_3 := hx215_3
          have hw215_2 := hx215_2
          have hw215_1 := hx215_1
          have hw215_0 := hx215_0
          obtain rfl : ad212 = ad215 := (by injection e215)
          replace hx215_0 := (HB.out.cell (World.block_lt_of_cell? w _ hx215_0)).trans hx215_0
          replace hx215_1 := (HB.out.cell (World.block_lt_of_cell? w _ hx215_1)).trans hx215_1
          replace hx215_2 := (HB.out.cell (World.block_lt_of_cell? w _ hx215_2)).trans hx215_2
          replace hx215_3 := (HB.out.cell (World.block_lt_of_cell? w _ hx215_3)).trans hx215_3
          have HR215_3 := Aside0.mk hi215_3
          have HC215_3 := Aside0.mk hl215_3
          clear hi215_3 hl215_3
          replace p215 := eq_true p215
          replace q215 := eq_true q215
          refine start_ (n := 25) (S := fun w' => w'.cell? (ad212.add ((x3_1).toNat * 4)) = some (.string ((rd_T39 l0 x3_1).f0)) ∧ w'.cell? ⟨(ad212.add ((x3_1).toNat * 4)).block, (ad212.add ((x3_1).toNat * 4)).off + 1, none⟩ = some (.bool ((rd_T39 l0 x3_1).f1)) ∧ w'.cell? ⟨(ad212.add ((x3_1).toNat * 4)).block, (ad212.add ((x3_1).toNat * 4)).off + 2, none⟩ = some (.int .i64 ((rd_T39 l0 x3_1).f2)) ∧ w'.cell? ⟨(ad212.add ((x3_1).toNat * 4)).block, (ad212.add ((x3_1).toNat * 4)).off + 3, none⟩ = some (.slice A212_3 ((rd_T39 l0 x3_1).f3).length c212_3) ∧ w'.cell? (ad212.add (((ji7)).toNat * 4)) = some (.string ((rd_T39 l0 (ji7)).f0)) ∧ w'.cell? ⟨(ad212.add (((ji7)).toNat * 4)).block, (ad212.add (((ji7)).toNat * 4)).off + 1, none⟩ = some (.bool ((rd_T39 l0 (ji7)).f1)) ∧ w'.cell? ⟨(ad212.add (((ji7)).toNat * 4)).block, (ad212.add (((ji7)).toNat * 4)).off + 2, none⟩ = some (.int .i64 ((rd_T39 l0 (ji7)).f2)) ∧ w'.cell? ⟨(ad212.add (((ji7)).toNat * 4)).block, (ad212.add (((ji7)).toNat * 4)).off + 3, none⟩ = some (.slice A214_3 ((rd_T39 l0 (ji7)).f3).length c214_3) ∧ w'.cell? (ad212.add ((x3_1).toNat * 4)) = some (.string ((rd_T39 l0 x3_1).f0)) ∧ w'.cell? ⟨(ad212.add ((x3_1).toNat * 4)).block, (ad212.add ((x3_1).toNat * 4)).off + 1, none⟩ = some (.bool ((rd_T39 l0 x3_1).f1)) ∧ w'.cell? ⟨(ad212.add ((x3_1).toNat * 4)).block, (ad212.add ((x3_1).toNat * 4)).off + 2, none⟩ = some (.int .i64 ((rd_T39 l0 x3_1).f2)) ∧ w'.cell? ⟨(ad212.add ((x3_1).toNat * 4)).block, (ad212.add ((x3_1).toNat * 4)).off + 3, none⟩ = some (.slice A215_3 ((rd_T39 l0 x3_1).f3).length c215_3)) (ds := []) #[false, false, false, false, false, false, false, false, false, false, false, false, false, false, false, false, false, false, false, false, false, false, false, false, false] qr rfl rfl ⟨((HB.out.cell (World.block_lt_of_cell? w _ hw212_0)).trans hw212_0), ((HB.out.cell (World.block_lt_of_cell? w _ hw212_1)).trans hw212_1), ((HB.out.cell (World.block_lt_of_cell? w _ hw212_2)).trans hw212_2), ((HB.out.cell (World.block_lt_of_cell? w _ hw212_3)).trans hw212_3), ((HB.out.cell (World.block_lt_of_cell? w _ hw214_0)).trans hw214_0), ((HB.out.cell (World.block_lt_of_cell? w _ hw214_1)).trans hw214_1), ((HB.out.cell (World.block_lt_of_cell? w _ hw214_2)).trans hw214_2), ((HB.out.cell (World.block_lt_of_cell? w _ hw214_3)).trans hw214_3), ((HB.out.cell (World.block_lt_of_cell? w _ hw215_0)).trans hw215_0), ((HB.out.cell (World.block_lt_of_cell? w _ hw215_1)).trans hw215_1), ((HB.out.cell (World.block_lt_of_cell? w _ hw215_2)).trans hw215_2), ((HB.out.cell (World.block_lt_of_cell? w _ hw215_3)).trans hw215_3)⟩ (fun hHeld => ?_); refine with_tabW chicaneref14_Right.tab4 chicaneref14_Right.bits4 (fun HT_ HW_ => ?_)
          generalize wr.drew = w13 at HB HR212_3 HR214_3 HR215_3 hx212_0 hx212_1 hx212_2 hx212_3 hx214_0 hx214_1 hx214_2 hx214_3 hx215_0 hx215_1 hx215_2 hx215_3 hHeld ⊢
          refine qP (i := 0) (N := some 10) HT_.out ?_
          refine qP (i := 1) (N := some 11) HT_.out ?_
          refine qP (i := 2) (N := some 12) HT_.out ?_
          refine take_ (i := 3) (N := some 13) (v := ?_) (a' := ?_) #[true, true, true, true, false, false, false, false, false, false, false, false, false, false, false, false, false, false, false, false, false, false, false, false, false] rfl rfl (take_ofW HT_.out HW_.out qr) (fun _ _ _ h => h) (Or.inl ⟨by rfl, ?_⟩) hHeld ?_ ?_
          rotate_left
          ·rintro w' ⟨s0, s1, s2, s3, s4, s5, s6, s7, s8, s9, s10, s11⟩
           go_simp
           with_reducible rfl
          rotate_left
          ·simp only [Act.put, List.setIfInBounds_toArray, List.set_cons_zero, List.set_cons_succ, i64_w, i32_w]
           rfl
          refine qO (i := 4) (N := some 14) HT_.out (fun K hK => ?_)
          refine goes_ Tryz.func27 qr rfl #[.agg #[.string ((rd_T39 l0 x3_1).f0), .bool ((rd_T39 l0 x3_1).f1), .int .i64 ((rd_T39 l0 x3_1).f2), .slice A212_3 ((rd_T39 l0 x3_1).f3).length c212_3]] (by rfl) rfl rfl qG ?_
          with_reducible refine (chicaneref14_Check.calls k1 ((rd_T39 l0 x3_1).f0) ((rd_T39 l0 x3_1).f1) ((rd_T39 l0 x3_1).f2) _ _ ((rd_T39 l0 x3_1).f3) t213 _ ?side1 ?side2 A4.out).mono ?_
          (case side1 => repeat (first | exact (Kd.C_below HR212_3.out HB.out) | (with_reducible refine Kd.C_alloc ?_ _) | (with_reducible refine Kd.C_drewN ?_ _) | (with_reducible refine Kd.C_drew ?_)))
          (case side2 => exact HC212_3.out)
          rintro e w14 ⟨rfl, hb⟩
          refine ⟨_, rfl, ?_⟩
          replace HB := Aside0.mk (below_step (qB HB.out) hb)
          (try clear hb)
          (try clear hb2)
          (try clear hk)
          (try clear hi)
          refine hK.out _ _ ⟨((HB.out.cell (World.block_lt_of_cell? w _ hw212_0)).trans hw212_0), ((HB.out.cell (World.block_lt_of_cell? w _ hw212_1)).trans hw212_1), ((HB.out.cell (World.block_lt_of_cell? w _ hw212_2)).trans hw212_2), ((HB.out.cell (World.block_lt_of_cell? w _ hw212_3)).trans hw212_3), ((HB.out.cell (World.block_lt_of_cell? w _ hw214_0)).trans hw214_0), ((HB.out.cell (World.block_lt_of_cell? w _ hw214_1)).trans hw214_1), ((HB.out.cell (World.block_lt_of_cell? w _ hw214_2)).trans hw214_2), ((HB.out.cell (World.block_lt_of_cell? w _ hw214_3)).trans hw214_3), ((HB.out.cell (World.block_lt_of_cell? w _ hw215_0)).trans hw215_0), ((HB.out.cell (World.block_lt_of_cell? w _ hw215_1)).trans hw215_1), ((HB.out.cell (World.block_lt_of_cell? w _ hw215_2)).trans hw215_2), ((HB.out.cell (World.block_lt_of_cell? w _ hw215_3)).trans hw215_3)⟩ (fun hHeld => ?_)
          clear hK K
          refine qM (N := some 14) ?_
          refine qP (i := 5) (N := some 15) HT_.out ?_
          refine qP (i := 6) (N := some 16) HT_.out ?_
          refine qP (i := 7) (N := some 17) HT_.out ?_
          refine qP (i := 8) (N := some 18) HT_.out ?_
          refine qP (i := 9) (N := some 19) HT_.out ?_
          refine qP (i := 10) (N := some 20) HT_.out ?_
          refine qP (i := 11) (N := some 21) HT_.out ?_
          refine qP (i := 12) (N := some 22) HT_.out ?_
          refine qP (i := 13) (N := some 23) HT_.out ?_
          refine qP (i := 14) (N := some 24) HT_.out ?_
          refine qP (i := 16) (N := some 26) HT_.out ?_
          refine qP (i := 17) (N := some 27) HT_.out ?_
          refine qP (i := 18) (N := some 28) HT_.out ?_
          refine qP (i := 19) (N := some 29) HT_.out ?_
          refine take_ (i := 15) (N := some 25) (v := ?_) (a' := ?_) #[true, true, true, true, true, true, true, true, true, true, true, true, true, true, true, true, true, true, true, true, false, false, false, false, false] rfl rfl (take_ofW HT_.out HW_.out qr) (fun _ _ _ h => h) (Or.inl ⟨by rfl, ?_⟩) hHeld ?_ ?_
          rotate_left
          ·rintro w' ⟨s0, s1, s2, s3, s4, s5, s6, s7, s8, s9, s10, s11⟩
           go_simp
           with_reducible rfl
          rotate_left
          ·simp only [Act.put, List.setIfInBounds_toArray, List.set_cons_zero, List.set_cons_succ, i64_w, i32_w]
           rfl
          refine take_ (i := 20) (N := some 30) (v := ?_) (a' := ?_) #[true, true, true, true, true, true, true, true, true, true, true, true, true, true, true, true, true, true, true, true, true, false, false, false, false] rfl rfl (take_ofW HT_.out HW_.out qr) (fun _ _ _ h => h) (Or.inl ⟨by rfl, ?_⟩) hHeld ?_ ?_
          rotate_left
          ·rintro w' ⟨s0, s1, s2, s3, s4, s5, s6, s7, s8, s9, s10, s11⟩
           go_simp
           with_reducible rfl
          rotate_left
          ·simp only [Act.put, List.setIfInBounds_toArray, List.set_cons_zero, List.set_cons_succ, i64_w, i32_w]
           rfl
          refine qP (i := 21) (N := some 31) HT_.out ?_
          refine qP (i := 22) (N := some 32) HT_.out ?_
          refine qP (i := 23) (N := some 33) HT_.out ?_
          refine qP (i := 24) (N := some 34) HT_.out ?_
          refine done_ (done_of HT_.out qr) ?_
          try go_wp2
          go_ret
          exact ⟨by first | rfl | (simp [errW_none, errW_some] <;> rfl) | (simp only [← hji7]; first | rfl | (simp [errW_none, errW_some] <;> rfl)) | (simp [*, errW_none, errW_some] <;> rfl), by repeat (first | (with_reducible first | exact HB.out | apply below_alloc | apply pw_below_drewN | apply below_drew1) | exact HB.out)⟩
        ·rw [if_neg c9] at H
         exact absurd H (by simp)
       ·rw [if_neg c8] at H
        exact absurd H (by simp)
      ·rw [if_neg c6] at H
       have c6b0 : decide (0 < x3_1) = false := decide_eq_false c6
       clear c6
       have H' := Aside0.mk H
       clear H
       try go_wp2
       replace HB := Aside0.mk (below_drew1 HB.out)
       have p212 : 0 ≤ (x3_1 : Int) := of_decide_eq_true qA
       have q212 : x3_1 < (l0.length : Int) := of_decide_eq_true qA
       obtain ⟨ad212, A212_3, c212_3, e212, hx212_0, hx212_1, hx212_2, hx212_3, hl212_3, hi212_3⟩ := at_T39 HR0.out x3_1 p212 q212
       have hw212_3 := hx212_3
       have hw212_2 := hx212_2
       have hw212_1 := hx212_1
       have hw212_0 := hx212_0
       cases e212
       replace hx212_0 := (HB.out.cell (World.block_lt_of_cell? w _ hx212_0)).trans hx212_0
       replace hx212_1 := (HB.out.cell (World.block_lt_of_cell? w _ hx212_1)).trans hx212_1
       replace hx212_2 := (HB.out.cell (World.block_lt_of_cell? w _ hx212_2)).trans hx212_2
       replace hx212_3 := (HB.out.cell (World.block_lt_of_cell? w _ hx212_3)).trans hx212_3
       have HR212_3 := Aside0.mk hi212_3
       have HC212_3 := Aside0.mk hl212_3
       clear hi212_3 hl212_3
       replace p212 := eq_true p212
       replace q212 := eq_true q212
       refine start_ (n := 25) (S := fun w' => w'.cell? (ad212.add ((x3_1).toNat * 4)) = some (.string ((rd_T39 l0 x3_1).f0)) ∧ w'.cell? ⟨(ad212.add ((x3_1).toNat * 4)).block, (ad212.add ((x3_1).toNat * 4)).off + 1, none⟩ = some (.bool ((rd_T39 l0 x3_1).f1)) ∧ w'.cell? ⟨(ad212.add ((x3_1).toNat * 4)).block, (ad212.add ((x3_1).toNat * 4)).off + 2, none⟩ = some (.int .i64 ((rd_T39 l0 x3_1).f2)) ∧ w'.cell? ⟨(ad212.add ((x3_1).toNat * 4)).block, (ad212.add ((x3_1).toNat * 4)).off + 3, none⟩ = some (.slice A212_3 ((rd_T39 l0 x3_1).f3).length c212_3)) (ds := []) #[false, false, false, false, false, false, false, false, false, false, false, false, false, false, false, false, false, false, false, false, false, false, false, false, false] qr rfl rfl ⟨((HB.out.cell (World.block_lt_of_cell? w _ hw212_0)).trans hw212_0), ((HB.out.cell (World.block_lt_of_cell? w _ hw212_1)).trans hw212_1), ((HB.out.cell (World.block_lt_of_cell? w _ hw212_2)).trans hw212_2), ((HB.out.cell (World.block_lt_of_cell? w _ hw212_3)).trans hw212_3)⟩ (fun hHeld => ?_); refine with_tabW chicaneref14_Right.tab4 chicaneref14_Right.bits4 (fun HT_ HW_ => ?_)
       generalize wr.drew = w15 at HB HR212_3 hx212_0 hx212_1 hx212_2 hx212_3 hHeld ⊢
       refine qP (i := 0) (N := some 10) HT_.out ?_
       refine qP (i := 1) (N := some 11) HT_.out ?_
       refine qP (i := 2) (N := some 12) HT_.out ?_
       refine take_ (i := 3) (N := some 13) (v := ?_) (a' := ?_) #[true, true, true, true, false, false, false, false, false, false, false, false, false, false, false, false, false, false, false, false, false, false, false, false, false] rfl rfl (take_ofW HT_.out HW_.out qr) (fun _ _ _ h => h) (Or.inl ⟨by rfl, ?_⟩) hHeld ?_ ?_
       rotate_left
       ·rintro w' ⟨s0, s1, s2, s3⟩
        go_simp
        with_reducible rfl
       rotate_left
       ·simp only [Act.put, List.setIfInBounds_toArray, List.set_cons_zero, List.set_cons_succ, i64_w, i32_w]
        rfl
       refine qO (i := 4) (N := some 14) HT_.out (fun K hK => ?_)
       refine goes_ Tryz.func27 qr rfl #[.agg #[.string ((rd_T39 l0 x3_1).f0), .bool ((rd_T39 l0 x3_1).f1), .int .i64 ((rd_T39 l0 x3_1).f2), .slice A212_3 ((rd_T39 l0 x3_1).f3).length c212_3]] (by rfl) rfl rfl qG ?_
       with_reducible refine (chicaneref14_Check.calls k1 ((rd_T39 l0 x3_1).f0) ((rd_T39 l0 x3_1).f1) ((rd_T39 l0 x3_1).f2) _ _ ((rd_T39 l0 x3_1).f3) t213 _ ?side1 ?side2 A4.out).mono ?_
       (case side1 => repeat (first | exact (Kd.C_below HR212_3.out HB.out) | (with_reducible refine Kd.C_alloc ?_ _) | (with_reducible refine Kd.C_drewN ?_ _) | (with_reducible refine Kd.C_drew ?_)))
       (case side2 => exact HC212_3.out)
       rintro e w16 ⟨rfl, hb⟩
       refine ⟨_, rfl, ?_⟩
       replace HB := Aside0.mk (below_step (qB HB.out) hb)
       (try clear hb)
       (try clear hb2)
       (try clear hk)
       (try clear hi)
       refine hK.out _ _ ⟨((HB.out.cell (World.block_lt_of_cell? w _ hw212_0)).trans hw212_0), ((HB.out.cell (World.block_lt_of_cell? w _ hw212_1)).trans hw212_1), ((HB.out.cell (World.block_lt_of_cell? w _ hw212_2)).trans hw212_2), ((HB.out.cell (World.block_lt_of_cell? w _ hw212_3)).trans hw212_3)⟩ (fun hHeld => ?_)
       clear hK K
       refine qM (N := some 14) ?_
       refine qP (i := 5) (N := some 15) HT_.out ?_
       refine qP (i := 6) (N := some 16) HT_.out ?_
       refine qP (i := 7) (N := some 17) HT_.out ?_
       refine qP (i := 8) (N := some 18) HT_.out ?_
       refine qP (i := 9) (N := some 19) HT_.out ?_
       refine pure_ (i := 10) (N := some 20) (v := undef) (a' := ?_) #[true, true, true, true, true, true, true, true, true, true, true, false, false, false, false, false, false, false, false, false, false, false, false, false, false] rfl rfl (any_of HT_.out qr) (fun _ _ _ h => h) (Or.inr ⟨by rfl, rfl⟩) ?_ ?_
       rotate_left
       ·simp only [Act.put, List.setIfInBounds_toArray, List.set_cons_zero, List.set_cons_succ, i64_w, i32_w]
        rfl
       refine pure_ (i := 11) (N := some 21) (v := undef) (a' := ?_) #[true, true, true, true, true, true, true, true, true, true, true, true, false, false, false, false, false, false, false, false, false, false, false, false, false] rfl rfl (any_of HT_.out qr) (fun _ _ _ h => h) (Or.inr ⟨by rfl, rfl⟩) ?_ ?_
       rotate_left
       ·simp only [Act.put, List.setIfInBounds_toArray, List.set_cons_zero, List.set_cons_succ, i64_w, i32_w]
        rfl
       refine pure_ (i := 12) (N := some 22) (v := undef) (a' := ?_) #[true, true, true, true, true, true, true, true, true, true, true, true, true, false, false, false, false, false, false, false, false, false, false, false, false] rfl rfl (any_of HT_.out qr) (fun _ _ _ h => h) (Or.inr ⟨by rfl, rfl⟩) ?_ ?_
       rotate_left
       ·simp only [Act.put, List.setIfInBounds_toArray, List.set_cons_zero, List.set_cons_succ, i64_w, i32_w]
        rfl
       refine pure_ (i := 13) (N := some 23) (v := undef) (a' := ?_) #[true, true, true, true, true, true, true, true, true, true, true, true, true, true, false, false, false, false, false, false, false, false, false, false, false] rfl rfl (any_of HT_.out qr) (fun _ _ _ h => h) (Or.inr ⟨by rfl, rfl⟩) ?_ ?_
       rotate_left
       ·simp only [Act.put, List.setIfInBounds_toArray, List.set_cons_zero, List.set_cons_succ, i64_w, i32_w]
        rfl
       refine pure_ (i := 14) (N := some 24) (v := undef) (a' := ?_) #[true, true, true, true, true, true, true, true, true, true, true, true, true, true, true, false, false, false, false, false, false, false, false, false, false] rfl rfl (any_of HT_.out qr) (fun _ _ _ h => h) (Or.inr ⟨by rfl, rfl⟩) ?_ ?_
       rotate_left
       ·simp only [Act.put, List.setIfInBounds_toArray, List.set_cons_zero, List.set_cons_succ, i64_w, i32_w]
        rfl
       refine pure_ (i := 15) (N := some 25) (v := undef) (a' := ?_) #[true, true, true, true, true, true, true, true, true, true, true, true, true, true, true, true, false, false, false, false, false, false, false, false, false] rfl rfl (any_of HT_.out qr) (fun _ _ _ h => h) (Or.inr ⟨by rfl, rfl⟩) ?_ ?_
       rotate_left
       ·simp only [Act.put, List.setIfInBounds_toArray, List.set_cons_zero, List.set_cons_succ, i64_w, i32_w]
        rfl
       refine pure_ (i := 16) (N := some 26) (v := undef) (a' := ?_) #[true, true, true, true, true, true, true, true, true, true, true, true, true, true, true, true, true, false, false, false, false, false, false, false, false] rfl rfl (any_of HT_.out qr) (fun _ _ _ h => h) (Or.inr ⟨by rfl, rfl⟩) ?_ ?_
       rotate_left
       ·simp only [Act.put, List.setIfInBounds_toArray, List.set_cons_zero, List.set_cons_succ, i64_w, i32_w]
        rfl
       refine pure_ (i := 17) (N := some 27) (v := undef) (a' := ?_) #[true, true, true, true, true, true, true, true, true, true, true, true, true, true, true, true, true, true, false, false, false, false, false, false, false] rfl rfl (any_of HT_.out qr) (fun _ _ _ h => h) (Or.inr ⟨by rfl, rfl⟩) ?_ ?_
       rotate_left
       ·simp only [Act.put, List.setIfInBounds_toArray, List.set_cons_zero, List.set_cons_succ, i64_w, i32_w]
        rfl
       refine pure_ (i := 18) (N := some 28) (v := undef) (a' := ?_) #[true, true, true, true, true, true, true, true, true, true, true, true, true, true, true, true, true, true, true, false, false, false, false, false, false] rfl rfl (any_of HT_.out qr) (fun _ _ _ h => h) (Or.inr ⟨by rfl, rfl⟩) ?_ ?_
       rotate_left
       ·simp only [Act.put, List.setIfInBounds_toArray, List.set_cons_zero, List.set_cons_succ, i64_w, i32_w]
        rfl
       refine pure_ (i := 19) (N := some 29) (v := undef) (a' := ?_) #[true, true, true, true, true, true, true, true, true, true, true, true, true, true, true, true, true, true, true, true, false, false, false, false, false] rfl rfl (any_of HT_.out qr) (fun _ _ _ h => h) (Or.inr ⟨by rfl, rfl⟩) ?_ ?_
       rotate_left
       ·simp only [Act.put, List.setIfInBounds_toArray, List.set_cons_zero, List.set_cons_succ, i64_w, i32_w]
        rfl
       refine pure_ (i := 20) (N := some 30) (v := undef) (a' := ?_) #[true, true, true, true, true, true, true, true, true, true, true, true, true, true, true, true, true, true, true, true, true, false, false, false, false] rfl rfl (any_of HT_.out qr) (fun _ _ _ h => h) (Or.inr ⟨by rfl, rfl⟩) ?_ ?_
       rotate_left
       ·simp only [Act.put, List.setIfInBounds_toArray, List.set_cons_zero, List.set_cons_succ, i64_w, i32_w]
        rfl
       refine pure_ (i := 21) (N := some 31) (v := undef) (a' := ?_) #[true, true, true, true, true, true, true, true, true, true, true, true, true, true, true, true, true, true, true, true, true, true, false, false, false] rfl rfl (any_of HT_.out qr) (fun _ _ _ h => h) (Or.inr ⟨by rfl, rfl⟩) ?_ ?_
       rotate_left
       ·simp only [Act.put, List.setIfInBounds_toArray, List.set_cons_zero, List.set_cons_succ, i64_w, i32_w]
        rfl
       refine pure_ (i := 22) (N := some 32) (v := undef) (a' := ?_) #[true, true, true, true, true, true, true, true, true, true, true, true, true, true, true, true, true, true, true, true, true, true, true, false, false] rfl rfl (any_of HT_.out qr) (fun _ _ _ h => h) (Or.inr ⟨by rfl, rfl⟩) ?_ ?_
       rotate_left
       ·simp only [Act.put, List.setIfInBounds_toArray, List.set_cons_zero, List.set_cons_succ, i64_w, i32_w]
        rfl
       refine qP (i := 23) (N := some 33) HT_.out ?_
       refine qP (i := 24) (N := some 34) HT_.out ?_
       refine done_ (done_of HT_.out qr) ?_
       try go_wp2
       go_roundg k1
       case measure => have := HK1.out; omega
       case rel => exact ⟨(wrap64 (x3_1 + 1)), qE1, H', ⟨by have := HK1.out; omega⟩, ⟨by repeat (first | (with_reducible first | exact HB.out | apply below_alloc | apply pw_below_drewN | apply below_drew1) | exact HB.out)⟩⟩
     ·rw [if_neg c5] at H
      have c5b0 : (t213 == 0) = false := beq_eq_false_iff_ne.mpr c5
      have c5b1 : (t213 != 0) = true := bne_iff_ne.mpr c5
      obtain rfl := Option.some.inj H
      try go_wp2
      replace HB := Aside0.mk (below_drew1 HB.out)
      have p212 : 0 ≤ (x3_1 : Int) := of_decide_eq_true qA
      have q212 : x3_1 < (l0.length : Int) := of_decide_eq_true qA
      obtain ⟨ad212, A212_3, c212_3, e212, hx212_0, hx212_1, hx212_2, hx212_3, hl212_3, hi212_3⟩ := at_T39 HR0.out x3_1 p212 q212
      have hw212_3 := hx212_3
      have hw212_2 := hx212_2
      have hw212_1 := hx212_1
      have hw212_0 := hx212_0
      cases e212
      replace hx212_0 := (HB.out.cell (World.block_lt_of_cell? w _ hx212_0)).trans hx212_0
      replace hx212_1 := (HB.out.cell (World.block_lt_of_cell? w _ hx212_1)).trans hx212_1
      replace hx212_2 := (HB.out.cell (World.block_lt_of_cell? w _ hx212_2)).trans hx212_2
      replace hx212_3 := (HB.out.cell (World.block_lt_of_cell? w _ hx212_3)).trans hx212_3
      have HR212_3 := Aside0.mk hi212_3
      have HC212_3 := Aside0.mk hl212_3
      clear hi212_3 hl212_3
      replace p212 := eq_true p212
      replace q212 := eq_true q212
      refine start_ (n := 25) (S := fun w' => w'.cell? (ad212.add ((x3_1).toNat * 4)) = some (.string ((rd_T39 l0 x3_1).f0)) ∧ w'.cell? ⟨(ad212.add ((x3_1).toNat * 4)).block, (ad212.add ((x3_1).toNat * 4)).off + 1, none⟩ = some (.bool ((rd_T39 l0 x3_1).f1)) ∧ w'.cell? ⟨(ad212.add ((x3_1).toNat * 4)).block, (ad212.add ((x3_1).toNat * 4)).off + 2, none⟩ = some (.int .i64 ((rd_T39 l0 x3_1).f2)) ∧ w'.cell? ⟨(ad212.add ((x3_1).toNat * 4)).block, (ad212.add ((x3_1).toNat * 4)).off + 3, none⟩ = some (.slice A212_3 ((rd_T39 l0 x3_1).f3).length c212_3)) (ds := []) #[false, false, false, false, false, false, false, false, false, false, false, false, false, false, false, false, false, false, false, false, false, false, false, false, false] qr rfl rfl ⟨((HB.out.cell (World.block_lt_of_cell? w _ hw212_0)).trans hw212_0), ((HB.out.cell (World.block_lt_of_cell? w _ hw212_1)).trans hw212_1), ((HB.out.cell (World.block_lt_of_cell? w _ hw212_2)).trans hw212_2), ((HB.out.cell (World.block_lt_of_cell? w _ hw212_3)).trans hw212_3)⟩ (fun hHeld => ?_); refine with_tabW chicaneref14_Right.tab4 chicaneref14_Right.bits4 (fun HT_ HW_ => ?_)
      generalize wr.drew = w17 at HB HR212_3 hx212_0 hx212_1 hx212_2 hx212_3 hHeld ⊢
      refine qP (i := 0) (N := some 10) HT_.out ?_
      refine qP (i := 1) (N := some 11) HT_.out ?_
      refine qP (i := 2) (N := some 12) HT_.out ?_
      refine take_ (i := 3) (N := some 13) (v := ?_) (a' := ?_) #[true, true, true, true, false, false, false, false, false, false, false, false, false, false, false, false, false, false, false, false, false, false, false, false, false] rfl rfl (take_ofW HT_.out HW_.out qr) (fun _ _ _ h => h) (Or.inl ⟨by rfl, ?_⟩) hHeld ?_ ?_
      rotate_left
      ·rintro w' ⟨s0, s1, s2, s3⟩
       go_simp
       with_reducible rfl
      rotate_left
      ·simp only [Act.put, List.setIfInBounds_toArray, List.set_cons_zero, List.set_cons_succ, i64_w, i32_w]
       rfl
      refine qO (i := 4) (N := some 14) HT_.out (fun K hK => ?_)
      refine goes_ Tryz.func27 qr rfl #[.agg #[.string ((rd_T39 l0 x3_1).f0), .bool ((rd_T39 l0 x3_1).f1), .int .i64 ((rd_T39 l0 x3_1).f2), .slice A212_3 ((rd_T39 l0 x3_1).f3).length c212_3]] (by rfl) rfl rfl qG ?_
      with_reducible refine (chicaneref14_Check.calls k1 ((rd_T39 l0 x3_1).f0) ((rd_T39 l0 x3_1).f1) ((rd_T39 l0 x3_1).f2) _ _ ((rd_T39 l0 x3_1).f3) t213 _ ?side1 ?side2 A4.out).mono ?_
      (case side1 => repeat (first | exact (Kd.C_below HR212_3.out HB.out) | (with_reducible refine Kd.C_alloc ?_ _) | (with_reducible refine Kd.C_drewN ?_ _) | (with_reducible refine Kd.C_drew ?_)))
      (case side2 => exact HC212_3.out)
      rintro e w18 ⟨rfl, hb⟩
      refine ⟨_, rfl, ?_⟩
      replace HB := Aside0.mk (below_step (qB HB.out) hb)
      (try clear hb)
      (try clear hb2)
      (try clear hk)
      (try clear hi)
      refine hK.out _ _ ⟨((HB.out.cell (World.block_lt_of_cell? w _ hw212_0)).trans hw212_0), ((HB.out.cell (World.block_lt_of_cell? w _ hw212_1)).trans hw212_1), ((HB.out.cell (World.block_lt_of_cell? w _ hw212_2)).trans hw212_2), ((HB.out.cell (World.block_lt_of_cell? w _ hw212_3)).trans hw212_3)⟩ (fun hHeld => ?_)
      clear hK K
      refine qM (N := some 14) ?_
      refine qP (i := 5) (N := some 15) HT_.out ?_
      refine qP (i := 6) (N := some 16) HT_.out ?_
      refine pure_ (i := 7) (N := some 17) (v := undef) (a' := ?_) #[true, true, true, true, true, true, true, true, false, false, false, false, false, false, false, false, false, false, false, false, false, false, false, false, false] rfl rfl (any_of HT_.out qr) (fun _ _ _ h => h) (Or.inr ⟨by rfl, rfl⟩) ?_ ?_
      rotate_left
      ·simp only [Act.put, List.setIfInBounds_toArray, List.set_cons_zero, List.set_cons_succ, i64_w, i32_w]
       rfl
      refine pure_ (i := 8) (N := some 18) (v := undef) (a' := ?_) #[true, true, true, true, true, true, true, true, true, false, false, false, false, false, false, false, false, false, false, false, false, false, false, false, false] rfl rfl (any_of HT_.out qr) (fun _ _ _ h => h) (Or.inr ⟨by rfl, rfl⟩) ?_ ?_
      rotate_left
      ·simp only [Act.put, List.setIfInBounds_toArray, List.set_cons_zero, List.set_cons_succ, i64_w, i32_w]
       rfl
      refine pure_ (i := 9) (N := some 19) (v := undef) (a' := ?_) #[true, true, true, true, true, true, true, true, true, true, false, false, false, false, false, false, false, false, false, false, false, false, false, false, false] rfl rfl (any_of HT_.out qr) (fun _ _ _ h => h) (Or.inr ⟨by rfl, rfl⟩) ?_ ?_
      rotate_left
      ·simp only [Act.put, List.setIfInBounds_toArray, List.set_cons_zero, List.set_cons_succ, i64_w, i32_w]
       rfl
      refine pure_ (i := 10) (N := some 20) (v := undef) (a' := ?_) #[true, true, true, true, true, true, true, true, true, true, true, false, false, false, false, false, false, false, false, false, false, false, false, false, false] rfl rfl (any_of HT_.out qr) (fun _ _ _ h => h) (Or.inr ⟨by rfl, rfl⟩) ?_ ?_
      rotate_left
      ·simp only [Act.put, List.setIfInBounds_toArray, List.set_cons_zero, List.set_cons_succ, i64_w, i32_w]
       rfl
      refine pure_ (i := 11) (N := some 21) (v := undef) (a' := ?_) #[true, true, true, true, true, true, true, true, true, true, true, true, false, false, false, false, false, false, false, false, false, false, false, false, false] rfl rfl (any_of HT_.out qr) (fun _ _ _ h => h) (Or.inr ⟨by rfl, rfl⟩) ?_ ?_
      rotate_left
      ·simp only [Act.put, List.setIfInBounds_toArray, List.set_cons_zero, List.set_cons_succ, i64_w, i32_w]
       rfl
      refine pure_ (i := 12) (N := some 22) (v := undef) (a' := ?_) #[true, true, true, true, true, true, true, true, true, true, true, true, true, false, false, false, false, false, false, false, false, false, false, false, false] rfl rfl (any_of HT_.out qr) (fun _ _ _ h => h) (Or.inr ⟨by rfl, rfl⟩) ?_ ?_
      rotate_left
      ·simp only [Act.put, List.setIfInBounds_toArray, List.set_cons_zero, List.set_cons_succ, i64_w, i32_w]
       rfl
      refine pure_ (i := 13) (N := some 23) (v := undef) (a' := ?_) #[true, true, true, true, true, true, true, true, true, true, true, true, true, true, false, false, false, false, false, false, false, false, false, false, false] rfl rfl (any_of HT_.out qr) (fun _ _ _ h => h) (Or.inr ⟨by rfl, rfl⟩) ?_ ?_
      rotate_left
      ·simp only [Act.put, List.setIfInBounds_toArray, List.set_cons_zero, List.set_cons_succ, i64_w, i32_w]
       rfl
      refine pure_ (i := 14) (N := some 24) (v := undef) (a' := ?_) #[true, true, true, true, true, true, true, true, true, true, true, true, true, true, true, false, false, false, false, false, false, false, false, false, false] rfl rfl (any_of HT_.out qr) (fun _ _ _ h => h) (Or.inr ⟨by rfl, rfl⟩) ?_ ?_
      rotate_left
      ·simp only [Act.put, List.setIfInBounds_toArray, List.set_cons_zero, List.set_cons_succ, i64_w, i32_w]
       rfl
      refine pure_ (i := 15) (N := some 25) (v := undef) (a' := ?_) #[true, true, true, true, true, true, true, true, true, true, true, true, true, true, true, true, false, false, false, false, false, false, false, false, false] rfl rfl (any_of HT_.out qr) (fun _ _ _ h => h) (Or.inr ⟨by rfl, rfl⟩) ?_ ?_
      rotate_left
      ·simp only [Act.put, List.setIfInBounds_toArray, List.set_cons_zero, List.set_cons_succ, i64_w, i32_w]
       rfl
      refine pure_ (i := 16) (N := some 26) (v := undef) (a' := ?_) #[true, true, true, true, true, true, true, true, true, true, true, true, true, true, true, true, true, false, false, false, false, false, false, false, false] rfl rfl (any_of HT_.out qr) (fun _ _ _ h => h) (Or.inr ⟨by rfl, rfl⟩) ?_ ?_
      rotate_left
      ·simp only [Act.put, List.setIfInBounds_toArray, List.set_cons_zero, List.set_cons_succ, i64_w, i32_w]
       rfl
      refine pure_ (i := 17) (N := some 27) (v := undef) (a' := ?_) #[true, true, true, true, true, true, true, true, true, true, true, true, true, true, true, true, true, true, false, false, false, false, false, false, false] rfl rfl (any_of HT_.out qr) (fun _ _ _ h => h) (Or.inr ⟨by rfl, rfl⟩) ?_ ?_
      rotate_left
      ·simp only [Act.put, List.setIfInBounds_toArray, List.set_cons_zero, List.set_cons_succ, i64_w, i32_w]
       rfl
      refine pure_ (i := 18) (N := some 28) (v := undef) (a' := ?_) #[true, true, true, true, true, true, true, true, true, true, true, true, true, true, true, true, true, true, true, false, false, false, false, false, false] rfl rfl (any_of HT_.out qr) (fun _ _ _ h => h) (Or.inr ⟨by rfl, rfl⟩) ?_ ?_
      rotate_left
      ·simp only [Act.put, List.setIfInBounds_toArray, List.set_cons_zero, List.set_cons_succ, i64_w, i32_w]
       rfl
      refine pure_ (i := 19) (N := some 29) (v := undef) (a' := ?_) #[true, true, true, true, true, true, true, true, true, true, true, true, true, true, true, true, true, true, true, true, false, false, false, false, false] rfl rfl (any_of HT_.out qr) (fun _ _ _ h => h) (Or.inr ⟨by rfl, rfl⟩) ?_ ?_
      rotate_left
      ·simp only [Act.put, List.setIfInBounds_toArray, List.set_cons_zero, List.set_cons_succ, i64_w, i32_w]
       rfl
      refine pure_ (i := 20) (N := some 30) (v := undef) (a' := ?_) #[true, true, true, true, true, true, true, true, true, true, true, true, true, true, true, true, true, true, true, true, true, false, false, false, false] rfl rfl (any_of HT_.out qr) (fun _ _ _ h => h) (Or.inr ⟨by rfl, rfl⟩) ?_ ?_
      rotate_left
      ·simp only [Act.put, List.setIfInBounds_toArray, List.set_cons_zero, List.set_cons_succ, i64_w, i32_w]
       rfl
      refine pure_ (i := 21) (N := some 31) (v := undef) (a' := ?_) #[true, true, true, true, true, true, true, true, true, true, true, true, true, true, true, true, true, true, true, true, true, true, false, false, false] rfl rfl (any_of HT_.out qr) (fun _ _ _ h => h) (Or.inr ⟨by rfl, rfl⟩) ?_ ?_
      rotate_left
      ·simp only [Act.put, List.setIfInBounds_toArray, List.set_cons_zero, List.set_cons_succ, i64_w, i32_w]
       rfl
      refine pure_ (i := 22) (N := some 32) (v := undef) (a' := ?_) #[true, true, true, true, true, true, true, true, true, true, true, true, true, true, true, true, true, true, true, true, true, true, true, false, false] rfl rfl (any_of HT_.out qr) (fun _ _ _ h => h) (Or.inr ⟨by rfl, rfl⟩) ?_ ?_
      rotate_left
      ·simp only [Act.put, List.setIfInBounds_toArray, List.set_cons_zero, List.set_cons_succ, i64_w, i32_w]
       rfl
      refine pure_ (i := 23) (N := some 33) (v := undef) (a' := ?_) #[true, true, true, true, true, true, true, true, true, true, true, true, true, true, true, true, true, true, true, true, true, true, true, true, false] rfl rfl (any_of HT_.out qr) (fun _ _ _ h => h) (Or.inr ⟨by rfl, rfl⟩) ?_ ?_
      rotate_left
      ·simp only [Act.put, List.setIfInBounds_toArray, List.set_cons_zero, List.set_cons_succ, i64_w, i32_w]
       rfl
      refine qP (i := 24) (N := some 34) HT_.out ?_
      refine done_ (done_of HT_.out qr) ?_
      try go_wp2
      go_ret
      exact ⟨qE, by repeat (first | (with_reducible first | exact HB.out | apply below_alloc | apply pw_below_drewN | apply below_drew1) | exact HB.out)⟩
    ·rw [if_neg c3] at H
     exact absurd H (by simp)
   ·rw [if_neg c2] at H
    have c2b0 : decide (x3_1 < (l0.length : Int)) = false := decide_eq_false c2
    clear c2
    obtain rfl := Option.some.inj H
    go_wp2
    go_ret
    exact ⟨qE, by repeat (first | (with_reducible first | exact HB.out | apply below_alloc | apply pw_below_drewN | apply below_drew1) | exact HB.out)⟩
end Go.Proofs.YtlglbpjccpdloaaGreat.PNamA
