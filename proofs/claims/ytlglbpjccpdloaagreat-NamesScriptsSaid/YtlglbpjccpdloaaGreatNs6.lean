/- Gathered by a program of this session (shake.py): what the claim's theorem needs. -/
import Derived.Test.YtlglbpjccpdloaaGreatNs1
import Derived.Test.YtlglbpjccpdloaaGreatNs2
import Derived.Test.YtlglbpjccpdloaaGreatNs4
import Derived.Test.YtlglbpjccpdloaaGreatNs5
set_option linter.unusedVariables false
set_option linter.unusedSimpArgs false
namespace Go.Proofs.YtlglbpjccpdloaaGreat.Ext
end Go.Proofs.YtlglbpjccpdloaaGreat.Ext
namespace Go.Proofs.YtlglbpjccpdloaaGreat.PNamA
end Go.Proofs.YtlglbpjccpdloaaGreat.PNamA
namespace Go.Proofs.YtlglbpjccpdloaaGreat.Sq
end Go.Proofs.YtlglbpjccpdloaaGreat.Sq
namespace Go.Proofs.YtlglbpjccpdloaaGreat.Tox
end Go.Proofs.YtlglbpjccpdloaaGreat.Tox
namespace Go.Proofs.YtlglbpjccpdloaaGreat.ToxZ
end Go.Proofs.YtlglbpjccpdloaaGreat.ToxZ
namespace Go.Proofs.YtlglbpjccpdloaaGreatW.PrintLast
end Go.Proofs.YtlglbpjccpdloaaGreatW.PrintLast
namespace Go.Proofs.YtlglbpjccpdloaaGreatW.PrintMore
end Go.Proofs.YtlglbpjccpdloaaGreatW.PrintMore
namespace Go.Proofs.YtlglbpjccpdloaaGreatW.PrintWords
end Go.Proofs.YtlglbpjccpdloaaGreatW.PrintWords
set_option linter.unusedVariables false
set_option linter.unusedSimpArgs false
namespace Go.Proofs.YtlglbpjccpdloaaGreat.Ext
open Go.RowKit Go.Proofs.YtlglbpjccpdloaaGreat.PNamA Go.Proofs.YtlglbpjccpdloaaGreat.Tox Go.Proofs.YtlglbpjccpdloaaGreat.ToxZ Go.Proofs.YtlglbpjccpdloaaGreatW.PrintWords Go.Proofs.YtlglbpjccpdloaaGreatW.PrintLast
def resetP (x : S39) : S39 := ⟨x.f0, true, x.f2, []⟩
def resetOf (l : List S39) : List S39 := if rightB l then l.map resetP else []
theorem set_mid {α : Type} (A B : List α) (x b : α) (i : Nat) (h : A.length = i) : (A ++ x :: B).set i b = A ++ b :: B := by
  subst h
  simp
theorem rd_mid (A B : List S39) (x : S39) (i : Nat) (h : A.length = i) : rd_T39 (A ++ x :: B) (i : Int) = x := by
  subst h
  simp [rd_T39]
theorem reset_l0 (l : List S39) (hm : l.length ≤ 1000000) (k : Nat) : ∀ (n i : Nat), l.length - i = n → i ≤ l.length →
    names_Reset.l0 (k + n + 1) ((l.take i).map resetP ++ l.drop i) (l.length : Int) (i : Int) = some (l.map resetP) := by
  intro n
  induction n with
  | zero =>
    intro i hn hi
    unfold names_Reset.l0
    rw [if_neg (by omega), List.drop_eq_nil_of_le (by omega), List.take_of_length_le (by omega), List.append_nil]
  | succ n ih =>
    intro i hn hi
    have hl : i < l.length := by omega
    have hA : ((l.take i).map resetP).length = i := by rw [List.length_map, List.length_take]; omega
    have ht : (l.take (i + 1)).map resetP ++ l.drop (i + 1) = (l.take i).map resetP ++ resetP l[i] :: l.drop (i + 1) := by
      rw [List.take_add_one, List.getElem?_eq_getElem hl]
      show ((l.take i ++ [l[i]]).map resetP) ++ _ = _
      rw [List.map_append, List.append_assoc]
      rfl
    have h1 := ih (i + 1) (by omega) (by omega)
    rw [ht] at h1
    rw [show k + (n + 1) + 1 = (k + n + 1) + 1 by omega]
    unfold names_Reset.l0
    rw [List.drop_eq_getElem_cons hl]
    rw [if_pos (by omega), if_pos (by omega), if_pos (by rw [List.length_append, hA, List.length_cons, List.length_drop]; omega), Option.bind_some, rd_mid _ _ _ i hA, Int.toNat_natCast, set_mid _ _ _ _ i hA, rd_mid _ _ _ i hA, set_mid _ _ _ _ i hA, show wrap64 ((i : Int) + 1) = ((i + 1 : Nat) : Int) by rw [w64_in' _ (by omega) (by omega)]; rfl]
    exact h1
theorem reset_is (l : List S39) (hm : l.length ≤ 4611686018427387904) (k : Nat) (hk : l.length + 22 ≤ k) : names_Reset.f k l = some (resetOf l) := by
  unfold names_Reset.f resetOf
  rw [right_is' l hm k hk, Option.bind_some]
  cases hr : rightB l with
  | false => rfl
  | true =>
    rw [if_pos rfl, if_pos rfl]
    simp only [names_own.f, if_pos (right_small hr), Option.bind_some]
    have h8 := (right_len hr).1
    have := reset_l0 l (by omega) (k - l.length - 1) l.length 0 (by omega) (by omega)
    rw [show k - l.length - 1 + l.length + 1 = k by omega] at this
    exact this
def doOf (l : List S39) (k n : Int) (s t : ByteArray) (on : Bool) (tx : S24) : List S39 × Int :=
  if k = 0 then addOf l s n else if k = 1 then dropOf l s else if k = 2 then changeOf (onT on) l s else if k = 3 then changeOf (addT tx) l s
  else if k = 4 then changeOf (dropT t) l s else if k = 5 then changeOf (setT tx) l s else (resetOf l, 0)
theorem does_is (l : List S39) (hm : l.length ≤ 4611686018427387904) (f : Nat) (hf : l.length + 22 ≤ f) (k n : Int) (s t : ByteArray) (on : Bool) (t0 : ByteArray) (t1 : Int) (t2 : Bool) (t3 t4 t5 : Int) :
    chicanelaw14_does.f f l k n s t on t0 t1 t2 t3 t4 t5 = some (doOf l k n s t on ⟨t0, t1, t2, t3, t4, t5⟩) := by
  unfold chicanelaw14_does.f doOf
  simp only [names_Add.f, names_Drop.f, names_Switch.f, names_AddToxic.f, names_DropToxic.f, names_SetToxic.f, if_pos hm, Option.bind_some, reset_is l hm f hf]
  repeat' split
  all_goals rfl
def lowP (l : List S39) : Prop := l.length ≤ 9 ∧ ∀ x ∈ l, x.f3.length ≤ 9
theorem low_right {l : List S39} (h : rightB l = true) : lowP l := by
  have h2 := right_len h
  exact ⟨by omega, fun x hx => by have := chk_len (h2.2 x hx); omega⟩
theorem low_change (T : S39 → PT) (hT : ∀ x, x.f3.length ≤ 8 → (T x).1.f3.length ≤ 9) {l : List S39} (h : rightB l = true) (s : ByteArray) : lowP (changeOf T l s).1 := by
  have hl := low_right h
  by_cases hp : place (namesP l) s < 0
  · rw [change_no T h hp]; exact hl
  · obtain ⟨k, x, hk, hx, hs⟩ := place_at hp
    rw [change_at T h hk hx]
    refine ⟨by rw [List.length_set]; exact hl.1, fun y hy => ?_⟩
    rcases List.mem_or_eq_of_mem_set hy with hy | hy
    · exact hl.2 y hy
    · rw [hy]; exact hT x (chk_len ((right_len h).2 x (List.mem_of_getElem? hx)))
theorem low_do {l : List S39} (h : rightB l = true) (k n : Int) (s t : ByteArray) (on : Bool) (tx : S24) : lowP (doOf l k n s t on tx).1 := by
  have hl := low_right h
  have h8 := (right_len h).1
  unfold doOf
  split
  · unfold addOf
    rw [if_pos h]
    repeat' split
    all_goals first
      | exact hl
      | (have hp := insP_perm (⟨s, true, n, []⟩ : S39) l
         refine ⟨by rw [show (insP ⟨s, true, n, []⟩ l, (0 : Int)).1.length = _ from hp.length_eq]; simp; omega, fun x hx => ?_⟩
         rcases List.mem_cons.1 (hp.mem_iff.1 hx) with hx | hx
         · rw [hx]; simp
         · exact hl.2 x hx)
  · split
    · unfold dropOf
      rw [if_pos h]
      split
      · exact hl
      · exact ⟨Nat.le_trans (List.length_eraseIdx_le _ _) hl.1, fun x hx => hl.2 x (List.mem_of_mem_eraseIdx hx)⟩
    · split
      · exact low_change _ (fun x hx => by show x.f3.length ≤ 9; omega) h s
      · split
        · refine low_change _ (fun x hx => ?_) h s
          unfold addT
          repeat' split
          all_goals simp
          all_goals omega
        · split
          · refine low_change _ (fun x hx => ?_) h s
            unfold dropT
            split
            · simp; omega
            · have := List.length_eraseIdx_le x.f3 (place (namesT x.f3) t).toNat
              simp only
              omega
          · split
            · refine low_change _ (fun x hx => ?_) h s
              unfold setT
              repeat' split
              all_goals simp
              all_goals omega
            · unfold resetOf
              rw [if_pos h]
              refine ⟨by simp; omega, fun x hx => ?_⟩
              obtain ⟨y, _, rfl⟩ := List.mem_map.1 hx
              simp [resetP]
end Go.Proofs.YtlglbpjccpdloaaGreat.Ext
set_option linter.unusedVariables false
namespace Go.Proofs.YtlglbpjccpdloaaGreat.NmLaw
open Go.Proofs.YtlglbpjccpdloaaGreat.PNamA
set_option maxRecDepth 100000 in
theorem alive_100 : chicanelaw14_alive.f 100 = some true := by kernel_rfl
theorem alive_is (k : Nat) (hk : 100 ≤ k) : chicanelaw14_alive.f k = some true := by
  obtain ⟨m, rfl⟩ : ∃ m, k = 100 + m := ⟨k - 100, by omega⟩
  induction m with
  | zero => exact alive_100
  | succ m ih => exact chicanelaw14_alive.mono _ _ (ih (by omega))
end Go.Proofs.YtlglbpjccpdloaaGreat.NmLaw
namespace Go.Proofs.YtlglbpjccpdloaaGreat.PNamA
open Go.Proofs.YtlglbpjccpdloaaGreat.Ext Go.Proofs.YtlglbpjccpdloaaGreat.ToxZ Go.RowKit Go.Proofs.YtlglbpjccpdloaaGreatW.PrintWords Go.Proofs.YtlglbpjccpdloaaGreatW.PrintLast Go.Proofs.YtlglbpjccpdloaaGreatW.PrintMore Go.Proofs.YtlglbpjccpdloaaGreat.Sq
attribute [local go_sem] max2_int min2_int max_two min_two max_three min_three max_four min_four   -- for this text's walks alone
set_option linter.unusedVariables false
set_option linter.unusedSimpArgs false
theorem pw_V_mv {α : Type} {d : Kd α} {e base : Nat} {W w1 : World} {ok ok' : Nat → Prop} {v : Value} {xs : List α} (h : Kd.V d e W base ok v xs) (hok : ∀ k, ok k → ok' k) (hm : Kd.V d e W base ok v xs → Kd.V d e w1 base ok v xs) : Kd.V d e w1 base ok' v xs := Kd.V_mono (hm h) hok
def chicaneref14_Find.l0 : Nat → List (S39) → ByteArray → Int → Option (Int)
 | 0, _, _, _ => none
 | k + 1, x0, x1, x5 => if x5 < (x0.length : Int) then (if 0 ≤ x5 then (if ((rd_T39 x0 x5).f0).toList = x1.toList then (some x5) else (chicaneref14_Find.l0 k x0 x1 (wrap64 (x5 + 1)))) else (none)) else (some (-1))
def chicaneref14_Find.f (k : Nat) (l0 : List (S39)) (a1 : ByteArray) : Option (Int) := chicaneref14_Find.l0 k l0 a1 0
set_option maxHeartbeats 8000000 in
set_option maxRecDepth 100000 in
theorem chicaneref14_Find.calls (k : Nat) (A0 : Option Addr) (c0 : Nat) (l0 : List (S39)) (a1 : ByteArray) (r : Int) (w : World) (hr0 : Kd.C k39 w A0 l0.length l0) (hc0 : l0.length ≤ c0) (h : chicaneref14_Find.f k l0 a1 = some r) :
  Calls Tryz.prog 14 #[.slice A0 l0.length c0, .string a1] w fun e w' => e = .returned (.int .i64 r) ∧ Drawn0 w w' := by
 have HR0 := Aside0.mk hr0
 have HC0 := Aside0.mk hc0
 clear hr0 hc0
 have H : (chicaneref14_Find.l0 k l0 a1 0) = some r := h
 clear h
 have H' := Aside0.mk H
 clear H
 go_enter Tryz.func14, Tryz.ntmps14
 go_wp2
 go_loopg [5] k (fun kq v5 w' => ∃ (x5_1 : Int), v5 = .int .i64 x5_1 ∧ Aside0 (chicaneref14_Find.l0 kq l0 a1 x5_1 = some r) ∧ Aside0 (kq ≤ k) ∧ Drawn0 w w')
 case atStart => exact ⟨(0), qE1, H', ⟨Nat.le_refl _⟩, by repeat (first | exact Drawn0.refl _ | apply Drawn0.step)⟩
 case round =>
  clear H'
  try clear c1
  try clear p2
  obtain ⟨x5_1, rfl, HA, HK1, ⟨m1, rfl⟩⟩ := hrel
  cases gk with
  | zero => exact absurd HA.out (by simp [chicaneref14_Find.l0])
  | succ k1 =>
   have H := HA.out
   clear HA
   simp only [chicaneref14_Find.l0] at H
   by_cases c3 : x5_1 < (l0.length : Int)
   ·rw [if_pos c3] at H
    have c3b0 : decide (x5_1 < (l0.length : Int)) = true := decide_eq_true c3
    clear c3
    by_cases c4 : 0 ≤ x5_1
    ·rw [if_pos c4] at H
     have c4b0 : decide (0 ≤ x5_1) = true := decide_eq_true c4
     clear c4
     by_cases c5 : ((rd_T39 l0 x5_1).f0).toList = a1.toList
     ·rw [if_pos c5] at H
      have c5b0 : (((rd_T39 l0 x5_1).f0).toList == a1.toList) = true := beq_iff_eq.mpr c5
      have c5b1 : (((rd_T39 l0 x5_1).f0).toList != a1.toList) = false := bne_eq_false_iff_eq.mpr c5
      clear c5
      obtain rfl := Option.some.inj H
      have p216 : 0 ≤ (x5_1 : Int) := of_decide_eq_true qA
      have q216 : x5_1 < (l0.length : Int) := of_decide_eq_true qA
      obtain ⟨ad216, A216_3, c216_3, e216, hx216_0, hx216_1, hx216_2, hx216_3, hl216_3, hi216_3⟩ := at_T39 HR0.out x5_1 p216 q216
      cases e216
      have HR216_3 := Aside0.mk hi216_3
      have HC216_3 := Aside0.mk hl216_3
      clear hi216_3 hl216_3
      replace p216 := eq_true p216
      replace q216 := eq_true q216
      go_wp2
      go_ret
      exact ⟨by first | rfl | (simp; done) | (simp [*]; done), by repeat (first | exact Drawn0.refl _ | apply Drawn0.step)⟩
     ·rw [if_neg c5] at H
      have c5b0 : (((rd_T39 l0 x5_1).f0).toList == a1.toList) = false := beq_eq_false_iff_ne.mpr c5
      have c5b1 : (((rd_T39 l0 x5_1).f0).toList != a1.toList) = true := bne_iff_ne.mpr c5
      have H' := Aside0.mk H
      clear H
      have p216 : 0 ≤ (x5_1 : Int) := of_decide_eq_true qA
      have q216 : x5_1 < (l0.length : Int) := of_decide_eq_true qA
      obtain ⟨ad216, A216_3, c216_3, e216, hx216_0, hx216_1, hx216_2, hx216_3, hl216_3, hi216_3⟩ := at_T39 HR0.out x5_1 p216 q216
      cases e216
      have HR216_3 := Aside0.mk hi216_3
      have HC216_3 := Aside0.mk hl216_3
      clear hi216_3 hl216_3
      replace p216 := eq_true p216
      replace q216 := eq_true q216
      go_wp2
      go_roundg k1
      case measure => have := HK1.out; omega
      case rel => exact ⟨(wrap64 (x5_1 + 1)), qE1, H', ⟨by have := HK1.out; omega⟩, by repeat (first | exact Drawn0.refl _ | apply Drawn0.step)⟩
    ·rw [if_neg c4] at H
     exact absurd H (by simp)
   ·rw [if_neg c3] at H
    have c3b0 : decide (x5_1 < (l0.length : Int)) = false := decide_eq_false c3
    clear c3
    obtain rfl := Option.some.inj H
    go_wp2
    go_ret
    exact ⟨by first | rfl | (simp; done) | (simp [*]; done), by repeat (first | exact Drawn0.refl _ | apply Drawn0.step)⟩
def chicaneref14_put.l0 : Nat → List (S39) → List (S39) → Bool → Int → ByteArray → Bool → Int → List (S24) → Option ((List (S39)))
 | 0, _, _, _, _, _, _, _, _ => none
 | k + 1, x0, x5, x6, x7, x218000, x218001, x218002, x218003 => if x7 < (x0.length : Int) then (if x6 = true then (if 0 ≤ x7 then (if x5.length < 2513169434916 then (chicaneref14_put.l0 k x0 (x5 ++ [(⟨(rd_T39 x0 x7).f0, (rd_T39 x0 x7).f1, (rd_T39 x0 x7).f2, (rd_T39 x0 x7).f3⟩ : S39)]) x6 (wrap64 (x7 + 1)) x218000 x218001 x218002 x218003) else (none)) else (none)) else (if 0 ≤ x7 then (if (Op.bytesLess x218000.toList (((rd_T39 x0 x7).f0).toList)) = true then (if x5.length < 2513169434916 then ((some (x5 ++ [(⟨x218000, x218001, x218002, x218003⟩ : S39)] : List (S39))).bind fun y223 => (if y223.length < 2513169434916 then (chicaneref14_put.l0 k x0 (y223 ++ [(⟨(rd_T39 x0 x7).f0, (rd_T39 x0 x7).f1, (rd_T39 x0 x7).f2, (rd_T39 x0 x7).f3⟩ : S39)]) true (wrap64 (x7 + 1)) x218000 x218001 x218002 x218003) else (none))) else (none)) else (if x5.length < 2513169434916 then (chicaneref14_put.l0 k x0 (x5 ++ [(⟨(rd_T39 x0 x7).f0, (rd_T39 x0 x7).f1, (rd_T39 x0 x7).f2, (rd_T39 x0 x7).f3⟩ : S39)]) x6 (wrap64 (x7 + 1)) x218000 x218001 x218002 x218003) else (none))) else (none))) else (if x6 = true then (some x5) else (if x5.length < 2513169434916 then (some (x5 ++ [(⟨x218000, x218001, x218002, x218003⟩ : S39)])) else (none)))
def chicaneref14_put.f (k : Nat) (l0 : List (S39)) (a1_0 : ByteArray) (a1_1 : Bool) (a1_2 : Int) (l1_3 : List (S24)) : Option ((List (S39))) := chicaneref14_put.l0 k l0 ([] : List (S39)) false 0 a1_0 a1_1 a1_2 l1_3
set_option maxHeartbeats 8000000 in
set_option maxRecDepth 100000 in
theorem chicaneref14_put.calls (k : Nat) (P0_ : Nat → Prop) (A0 : Option Addr) (c0 : Nat) (l0 : List (S39)) (a1_0 : ByteArray) (a1_1 : Bool) (a1_2 : Int) (P1_3_ : Nat → Prop) (A1_3 : Option Addr) (c1_3 : Nat) (l1_3 : List (S24)) (r : List (S39)) (w : World) (hs0 : Kd.V k39 39 w w.heap.size (fun k_ => P0_ k_) (.slice A0 l0.length c0) l0) (hs1_3 : Kd.V k24 24 w w.heap.size (fun k_ => P1_3_ k_) (.slice A1_3 l1_3.length c1_3) l1_3) (h : chicaneref14_put.f k l0 a1_0 a1_1 a1_2 l1_3 = some r) :
  Calls Tryz.prog 55 #[.slice A0 l0.length c0, .agg #[.string a1_0, .bool a1_1, .int .i64 a1_2, .slice A1_3 l1_3.length c1_3]] w fun e w' => ∃ v0_ : Value, e = .returned (v0_) ∧ Kd.N k39 39 w' w.heap.size (fun k_ => ((P0_ k_ ∨ P1_3_ k_) ∨ w.heap.size ≤ k_)) v0_ r ∧ Below w.heap.size w w' := by
 have hu39 := Tryz.underlying39
 have HO0 := Aside0.mk (show Kd.V k39 39 w w.heap.size (fun k_ => ((P0_ k_ ∨ P1_3_ k_) ∨ w.heap.size ≤ k_)) (.slice A0 l0.length c0) l0 from Kd.V_mono hs0 (fun k_ hk => .inl (.inl hk)))
 have HO1_3 := Aside0.mk (show Kd.V k24 24 w w.heap.size (fun k_ => ((P0_ k_ ∨ P1_3_ k_) ∨ w.heap.size ≤ k_)) (.slice A1_3 l1_3.length c1_3) l1_3 from Kd.V_mono hs1_3 (fun k_ hk => .inl (.inr hk)))
 have HB := Aside0.mk (Below.refl w.heap.size w)
 have H : (chicaneref14_put.l0 k l0 ([] : List (S39)) false 0 a1_0 a1_1 a1_2 l1_3) = some r := h
 clear h
 have H' := Aside0.mk H
 clear H
 go_enter Tryz.func55, Tryz.ntmps55
 go_wp2_with (first | ((with_reducible refine gate_dst (N := 3) rfl ?_); refine box_event ?hg (N := 3) ?hd (cs := #[.string a1_0, .bool a1_1, .int .i64 a1_2, .slice A1_3 l1_3.length c1_3]) (t := 39) ?hr ?_; (case hd => rfl); (case hg => rfl); (case hr => first | (go_simp; done) | (go_simp; rfl)); intro gb217 hg w3 hbox hb; have n0_ := Aside0.mk (Kd.V_below (Kd.V_elderB (qV HO0.out) gb217 (Nat.le_of_eq hg.symm)) hb); have n1_ := Aside0.mk (Kd.V_below (Kd.V_elderB (qV HO1_3.out) gb217 (Nat.le_of_eq hg.symm)) hb); have n2_ := Aside0.mk (below_step (qB HB.out) hb); have n3_ := Aside0.mk (hbox); have n4_ := Aside0.mk ((qs hg (below_size (qB HB.out)) : w.heap.size ≤ gb217)); have n5_ := Aside0.mk ((qs hg (below_size (qB HB.out)) : w.heap.size ≤ gb217)); clear HO0 HO1_3 HB; have HO0 := n0_; have HO1_3 := n1_; have HB := n2_; have BK217 := n3_; have GW217 := n4_; have GE217 := n5_; clear n0_ n1_ n2_ n3_ n4_ n5_ hb hbox hg))
 repeat (go_quiet (first | ((with_reducible refine gate_dst (N := 3) rfl ?_); refine box_event ?hg (N := 3) ?hd (cs := #[.string a1_0, .bool a1_1, .int .i64 a1_2, .slice A1_3 l1_3.length c1_3]) (t := 39) ?hr ?_; (case hd => rfl); (case hg => rfl); (case hr => first | (go_simp; done) | (go_simp; rfl)); intro gb217 hg w3 hbox hb; have n0_ := Aside0.mk (Kd.V_below (Kd.V_elderB (qV HO0.out) gb217 (Nat.le_of_eq hg.symm)) hb); have n1_ := Aside0.mk (Kd.V_below (Kd.V_elderB (qV HO1_3.out) gb217 (Nat.le_of_eq hg.symm)) hb); have n2_ := Aside0.mk (below_step (qB HB.out) hb); have n3_ := Aside0.mk (hbox); have n4_ := Aside0.mk ((qs hg (below_size (qB HB.out)) : w.heap.size ≤ gb217)); have n5_ := Aside0.mk ((qs hg (below_size (qB HB.out)) : w.heap.size ≤ gb217)); clear HO0 HO1_3 HB; have HO0 := n0_; have HO1_3 := n1_; have HB := n2_; have BK217 := n3_; have GW217 := n4_; have GE217 := n5_; clear n0_ n1_ n2_ n3_ n4_ n5_ hb hbox hg)); try go_wp2_with (first | ((with_reducible refine gate_dst (N := 3) rfl ?_); refine box_event ?hg (N := 3) ?hd (cs := #[.string a1_0, .bool a1_1, .int .i64 a1_2, .slice A1_3 l1_3.length c1_3]) (t := 39) ?hr ?_; (case hd => rfl); (case hg => rfl); (case hr => first | (go_simp; done) | (go_simp; rfl)); intro gb217 hg w3 hbox hb; have n0_ := Aside0.mk (Kd.V_below (Kd.V_elderB (qV HO0.out) gb217 (Nat.le_of_eq hg.symm)) hb); have n1_ := Aside0.mk (Kd.V_below (Kd.V_elderB (qV HO1_3.out) gb217 (Nat.le_of_eq hg.symm)) hb); have n2_ := Aside0.mk (below_step (qB HB.out) hb); have n3_ := Aside0.mk (hbox); have n4_ := Aside0.mk ((qs hg (below_size (qB HB.out)) : w.heap.size ≤ gb217)); have n5_ := Aside0.mk ((qs hg (below_size (qB HB.out)) : w.heap.size ≤ gb217)); clear HO0 HO1_3 HB; have HO0 := n0_; have HO1_3 := n1_; have HB := n2_; have BK217 := n3_; have GW217 := n4_; have GE217 := n5_; clear n0_ n1_ n2_ n3_ n4_ n5_ hb hbox hg)))
 go_loopg [5, 6, 7] k (fun kq v5 v6 v7 w' => ∃ (x5_1 : List (S39)) (x6_1 : Bool) (x7_1 : Int), v6 = .bool x6_1 ∧ v7 = .int .i64 x7_1 ∧ Aside0 (chicaneref14_put.l0 kq l0 x5_1 x6_1 x7_1 a1_0 a1_1 a1_2 l1_3 = some r) ∧ Aside0 (kq ≤ k) ∧ Aside0 (Kd.V k39 39 w' w.heap.size (fun k_ => ((P0_ k_ ∨ P1_3_ k_) ∨ w.heap.size ≤ k_) ∧ some k_ ≠ (v5 : Value).ownBlock ∧ k_ ≠ gb217) (.slice A0 l0.length c0) l0) ∧ Aside0 (Kd.N k39 39 w' w.heap.size (fun k_ => ((P0_ k_ ∨ P1_3_ k_) ∨ w.heap.size ≤ k_) ∧ k_ ≠ gb217) v5 x5_1) ∧ Aside0 (Kd.V k24 24 w' w.heap.size (fun k_ => ((P0_ k_ ∨ P1_3_ k_) ∨ w.heap.size ≤ k_) ∧ some k_ ≠ (v5 : Value).ownBlock ∧ k_ ≠ gb217) (.slice A1_3 l1_3.length c1_3) l1_3) ∧ Aside0 (w'.heap[gb217]? = some (.cells #[.string a1_0, .bool a1_1, .int .i64 a1_2, (.slice A1_3 l1_3.length c1_3)] 39 (0, 0))) ∧ Aside0 (Below w.heap.size w w'))
 case atStart => exact ⟨(([] : List (S39))), (false), (0), qE1, qE1, H', ⟨Nat.le_refl _⟩, ⟨by (with_reducible repeat (first | apply Kd.V_alloc | apply Kd.V_drewN | apply Kd.V_drew)); exact Kd.V_mono HO0.out (fun _ hk => ⟨hk.1, ⟨(by simp [Value.ownBlock]), hk.2⟩⟩)⟩, ⟨by first | exact Kd.S_nil _ _ _ _ _ | exact Kd.N_nil _ _ _ _ _ | exact Kd.V_nil _ _ _ _ _ | exact Kd.Q_nil _ _ _ _ _ | exact Kd.R_nil _ _ _ _ _⟩, ⟨by (with_reducible repeat (first | apply Kd.V_alloc | apply Kd.V_drewN | apply Kd.V_drew)); exact Kd.V_mono HO1_3.out (fun _ hk => ⟨hk.1, ⟨(by simp [Value.ownBlock]), hk.2⟩⟩)⟩, ⟨by (with_reducible repeat (first | refine blk_drewN ?_ _ | refine blk_drew ?_ | refine blk_alloc ?_ _)); exact BK217.out⟩, ⟨by repeat (first | (with_reducible first | exact HB.out | apply below_alloc | apply pw_below_drewN | apply below_drew1 | refine below_set ?_ GE217.out) | exact HB.out)⟩⟩
 case round =>
  clear H'
  try clear c1
  try clear p2
  obtain ⟨x5_1, x6_1, x7_1, rfl, rfl, HA, HK1, HO_0, HO_5, HO_218003, BK217, HB⟩ := hrel
  obtain ⟨Ao5, co5, eo5⟩ := Kd.N_slice HO_5.out
  subst eo5
  cases gk with
  | zero => exact absurd HA.out (by simp [chicaneref14_put.l0])
  | succ k1 =>
   have H := HA.out
   clear HA
   simp only [chicaneref14_put.l0] at H
   by_cases c4 : x7_1 < (l0.length : Int)
   ·rw [if_pos c4] at H
    have c4b0 : decide (x7_1 < (l0.length : Int)) = true := decide_eq_true c4
    clear c4
    by_cases c5 : x6_1 = true
    ·subst c5
     have H1 : (if 0 ≤ x7_1 then (if x5_1.length < 2513169434916 then (chicaneref14_put.l0 k1 l0 (x5_1 ++ [(⟨(rd_T39 l0 x7_1).f0, (rd_T39 l0 x7_1).f1, (rd_T39 l0 x7_1).f2, (rd_T39 l0 x7_1).f3⟩ : S39)]) true (wrap64 (x7_1 + 1)) a1_0 a1_1 a1_2 l1_3) else (none)) else (none)) = some r := by rw [if_pos rfl] at H; exact H
     clear H
     have H := H1
     clear H1
     by_cases c6 : 0 ≤ x7_1
     ·rw [if_pos c6] at H
      have c6b0 : decide (0 ≤ x7_1) = true := decide_eq_true c6
      clear c6
      by_cases c7 : x5_1.length < 2513169434916
      ·rw [if_pos c7] at H
       have LMc7 := Aside0.mk c7
       clear c7
       obtain ⟨y219, hy219⟩ : ∃ y_ : List (S39), y_ = (x5_1 ++ [(⟨(rd_T39 l0 x7_1).f0, (rd_T39 l0 x7_1).f1, (rd_T39 l0 x7_1).f2, (rd_T39 l0 x7_1).f3⟩ : S39)]) := ⟨_, rfl⟩
       replace H : (chicaneref14_put.l0 k1 l0 y219 true (wrap64 (x7_1 + 1)) a1_0 a1_1 a1_2 l1_3) = some r := by first | (rw [hy219]; with_reducible exact H) | (have H2_ := (Option.bind_some _ _).symm.trans H; rw [hy219]; with_reducible exact H2_) | (have H2_ := (Option.bind_some _ _).symm.trans H; with_reducible exact H2_) | with_reducible exact H | (rw [hy219]; exact H) | exact H
       have Ny219 := Aside0.mk hy219
       clear hy219
       have H' := Aside0.mk H
       clear H
       have p218 : 0 ≤ (x7_1 : Int) := of_decide_eq_true qA
       have q218 : x7_1 < (l0.length : Int) := of_decide_eq_true qA
       obtain ⟨ad218, A218_3, c218_3, e218, hx218_0, hx218_1, hx218_2, hx218_3, hl218_3, hi218_3⟩ := at_T39 (Kd.V_reads' HO_0.out).2.2 x7_1 p218 q218
       cases e218
       obtain ⟨ce218, hce218, hMe218, hcc218⟩ := Kd.V_get HO_0.out z39 x7_1 p218 (by first | exact q218 | exact of_decide_eq_true qA | (have e_ := (Kd.V_reads' HO_0.out).1; omega))
       obtain ⟨ua218_3, uc218_3, rfl, ul218_3, ge218_3⟩ := k39_openF hMe218
       have hv218_3 := hcc218 3 _ rfl
       rw [add_field _ _ 3 (by omega)] at hv218_3
       replace hv218_3 := Option.some.inj (hv218_3.symm.trans hx218_3)
       injection hv218_3 with hva_ hvn_ hvc_
       rw [hva_] at ge218_3
       rw [hvc_] at ul218_3
       have HL218_3 := Aside0.mk (show Kd.V k24 24 _ w.heap.size _ _ ((rd_T39 l0 x7_1).f3) from Kd.V_mk ul218_3 ge218_3)
       clear hva_ hvn_ hvc_ ge218_3 ul218_3 hcc218 hce218
       have HR218_3 := Aside0.mk hi218_3
       have HC218_3 := Aside0.mk hl218_3
       clear hi218_3 hl218_3
       replace p218 := eq_true p218
       replace q218 := eq_true q218
       go_wp2_with (first | ((with_reducible refine gate_builtin (b := .append) (xs := #[.tmp 30, .tmp 35]) rfl ?_); at_builtin; refine Kd.N_append k39 (w0 := w) w.heap.size rfl (.tmp 30) (.tmp 35) 22 39 (.agg #[(.string ⟨#[]⟩), (.bool false), (.int .i64 0), (.slice none 0 0)]) 56 rfl Tryz.underlying22 info39 rfl (by decide) (by omega) (.slice Ao5 x5_1.length co5) x5_1 (⟨(rd_T39 l0 x7_1).f0, (rd_T39 l0 x7_1).f1, (rd_T39 l0 x7_1).f2, (rd_T39 l0 x7_1).f3⟩ : S39) [.string ((rd_T39 l0 x7_1).f0), .bool ((rd_T39 l0 x7_1).f1), .int .i64 ((rd_T39 l0 x7_1).f2), .slice A218_3 ((rd_T39 l0 x7_1).f3).length c218_3] (fun k_ => ((P0_ k_ ∨ P1_3_ k_) ∨ w.heap.size ≤ k_) ∧ k_ ≠ gb217) (fun k_ => ((fun k_ => ((P0_ k_ ∨ P1_3_ k_) ∨ w.heap.size ≤ k_) ∧ k_ ≠ gb217)) k_ ∧ some k_ ≠ ((.slice Ao5 x5_1.length co5) : Value).ownBlock) rfl rfl ?aP (fun _ hk => hk) ?aF ?aO ?aB ?aS ?aL ?_; (case aP => exact (k39_mkF _ _ (⟨(rd_T39 l0 x7_1).f0, (rd_T39 l0 x7_1).f1, (rd_T39 l0 x7_1).f2, (rd_T39 l0 x7_1).f3⟩ : S39) (Kd.V_reads' (Kd.V_mono (ok' := (fun k_ => ((fun k_ => ((P0_ k_ ∨ P1_3_ k_) ∨ w.heap.size ≤ k_) ∧ k_ ≠ gb217)) k_ ∧ some k_ ≠ ((.slice Ao5 x5_1.length co5) : Value).ownBlock)) (HL218_3.out) (fun k_ hk => ⟨⟨hk.1, hk.2.2⟩, hk.2.1⟩))).2.1 (Kd.V_F (pw_V_mv (ok' := (fun k_ => ((fun k_ => ((P0_ k_ ∨ P1_3_ k_) ∨ w.heap.size ≤ k_) ∧ k_ ≠ gb217)) k_ ∧ some k_ ≠ ((.slice Ao5 x5_1.length co5) : Value).ownBlock)) (HL218_3.out) (fun k_ hk => ⟨⟨hk.1, hk.2.2⟩, hk.2.1⟩) (by intro h_; (with_reducible repeat (first | apply Kd.V_alloc | apply Kd.V_drewN | apply Kd.V_drew)); exact h_))))); (case aB => exact (qB1 HB.out GE217.out)); (case aF => exact (fun k_ hk => ⟨(.inr (Nat.le_trans (below_size (qB1 HB.out GE217.out)) hk)), Kd.freshB (qK BK217.out) k_ hk⟩)); (case aO => exact (qN HO_5.out)); (case aS => exact (below_size (qB1 HB.out GE217.out))); (case aL => have := LMc7.out; omega); intro v220 w8 ho hb hg hat; rw [← Ny219.out] at ho; replace HO_0 := Aside0.mk (Kd.V_afterv (ok := (fun k_ => ((P0_ k_ ∨ P1_3_ k_) ∨ w.heap.size ≤ k_) ∧ k_ ≠ gb217)) (qV (Kd.V_mono HO_0.out (fun _ hk => ⟨⟨hk.1, hk.2.2⟩, hk.2.1⟩))) hg hat); replace HO_218003 := Aside0.mk (Kd.V_afterv (ok := (fun k_ => ((P0_ k_ ∨ P1_3_ k_) ∨ w.heap.size ≤ k_) ∧ k_ ≠ gb217)) (qV (Kd.V_mono HO_218003.out (fun _ hk => ⟨⟨hk.1, hk.2.2⟩, hk.2.1⟩))) hg hat); replace BK217 := Aside0.mk (blk_grown (qK BK217.out) hg (Kd.N_away HO_5.out (fun _ hk => hk.2))); replace HL218_3 := Aside0.mk (Kd.V_afterv (ok := (fun k_ => ((P0_ k_ ∨ P1_3_ k_) ∨ w.heap.size ≤ k_) ∧ k_ ≠ gb217)) (qV (Kd.V_mono HL218_3.out (fun _ hk => ⟨⟨hk.1, hk.2.2⟩, hk.2.1⟩))) hg hat); replace HB := Aside0.mk (hb); have HO221 := Aside0.mk (ho); clear HO_5 ho hb hg hat))
       repeat (go_quiet (first | ((with_reducible refine gate_builtin (b := .append) (xs := #[.tmp 30, .tmp 35]) rfl ?_); at_builtin; refine Kd.N_append k39 (w0 := w) w.heap.size rfl (.tmp 30) (.tmp 35) 22 39 (.agg #[(.string ⟨#[]⟩), (.bool false), (.int .i64 0), (.slice none 0 0)]) 56 rfl Tryz.underlying22 info39 rfl (by decide) (by omega) (.slice Ao5 x5_1.length co5) x5_1 (⟨(rd_T39 l0 x7_1).f0, (rd_T39 l0 x7_1).f1, (rd_T39 l0 x7_1).f2, (rd_T39 l0 x7_1).f3⟩ : S39) [.string ((rd_T39 l0 x7_1).f0), .bool ((rd_T39 l0 x7_1).f1), .int .i64 ((rd_T39 l0 x7_1).f2), .slice A218_3 ((rd_T39 l0 x7_1).f3).length c218_3] (fun k_ => ((P0_ k_ ∨ P1_3_ k_) ∨ w.heap.size ≤ k_) ∧ k_ ≠ gb217) (fun k_ => ((fun k_ => ((P0_ k_ ∨ P1_3_ k_) ∨ w.heap.size ≤ k_) ∧ k_ ≠ gb217)) k_ ∧ some k_ ≠ ((.slice Ao5 x5_1.length co5) : Value).ownBlock) rfl rfl ?aP (fun _ hk => hk) ?aF ?aO ?aB ?aS ?aL ?_; (case aP => exact (k39_mkF _ _ (⟨(rd_T39 l0 x7_1).f0, (rd_T39 l0 x7_1).f1, (rd_T39 l0 x7_1).f2, (rd_T39 l0 x7_1).f3⟩ : S39) (Kd.V_reads' (Kd.V_mono (ok' := (fun k_ => ((fun k_ => ((P0_ k_ ∨ P1_3_ k_) ∨ w.heap.size ≤ k_) ∧ k_ ≠ gb217)) k_ ∧ some k_ ≠ ((.slice Ao5 x5_1.length co5) : Value).ownBlock)) (HL218_3.out) (fun k_ hk => ⟨⟨hk.1, hk.2.2⟩, hk.2.1⟩))).2.1 (Kd.V_F (pw_V_mv (ok' := (fun k_ => ((fun k_ => ((P0_ k_ ∨ P1_3_ k_) ∨ w.heap.size ≤ k_) ∧ k_ ≠ gb217)) k_ ∧ some k_ ≠ ((.slice Ao5 x5_1.length co5) : Value).ownBlock)) (HL218_3.out) (fun k_ hk => ⟨⟨hk.1, hk.2.2⟩, hk.2.1⟩) (by intro h_; (with_reducible repeat (first | apply Kd.V_alloc | apply Kd.V_drewN | apply Kd.V_drew)); exact h_))))); (case aB => exact (qB1 HB.out GE217.out)); (case aF => exact (fun k_ hk => ⟨(.inr (Nat.le_trans (below_size (qB1 HB.out GE217.out)) hk)), Kd.freshB (qK BK217.out) k_ hk⟩)); (case aO => exact (qN HO_5.out)); (case aS => exact (below_size (qB1 HB.out GE217.out))); (case aL => have := LMc7.out; omega); intro v220 w8 ho hb hg hat; rw [← Ny219.out] at ho; replace HO_0 := Aside0.mk (Kd.V_afterv (ok := (fun k_ => ((P0_ k_ ∨ P1_3_ k_) ∨ w.heap.size ≤ k_) ∧ k_ ≠ gb217)) (qV (Kd.V_mono HO_0.out (fun _ hk => ⟨⟨hk.1, hk.2.2⟩, hk.2.1⟩))) hg hat); replace HO_218003 := Aside0.mk (Kd.V_afterv (ok := (fun k_ => ((P0_ k_ ∨ P1_3_ k_) ∨ w.heap.size ≤ k_) ∧ k_ ≠ gb217)) (qV (Kd.V_mono HO_218003.out (fun _ hk => ⟨⟨hk.1, hk.2.2⟩, hk.2.1⟩))) hg hat); replace BK217 := Aside0.mk (blk_grown (qK BK217.out) hg (Kd.N_away HO_5.out (fun _ hk => hk.2))); replace HL218_3 := Aside0.mk (Kd.V_afterv (ok := (fun k_ => ((P0_ k_ ∨ P1_3_ k_) ∨ w.heap.size ≤ k_) ∧ k_ ≠ gb217)) (qV (Kd.V_mono HL218_3.out (fun _ hk => ⟨⟨hk.1, hk.2.2⟩, hk.2.1⟩))) hg hat); replace HB := Aside0.mk (hb); have HO221 := Aside0.mk (ho); clear HO_5 ho hb hg hat)); try go_wp2_with (first | ((with_reducible refine gate_builtin (b := .append) (xs := #[.tmp 30, .tmp 35]) rfl ?_); at_builtin; refine Kd.N_append k39 (w0 := w) w.heap.size rfl (.tmp 30) (.tmp 35) 22 39 (.agg #[(.string ⟨#[]⟩), (.bool false), (.int .i64 0), (.slice none 0 0)]) 56 rfl Tryz.underlying22 info39 rfl (by decide) (by omega) (.slice Ao5 x5_1.length co5) x5_1 (⟨(rd_T39 l0 x7_1).f0, (rd_T39 l0 x7_1).f1, (rd_T39 l0 x7_1).f2, (rd_T39 l0 x7_1).f3⟩ : S39) [.string ((rd_T39 l0 x7_1).f0), .bool ((rd_T39 l0 x7_1).f1), .int .i64 ((rd_T39 l0 x7_1).f2), .slice A218_3 ((rd_T39 l0 x7_1).f3).length c218_3] (fun k_ => ((P0_ k_ ∨ P1_3_ k_) ∨ w.heap.size ≤ k_) ∧ k_ ≠ gb217) (fun k_ => ((fun k_ => ((P0_ k_ ∨ P1_3_ k_) ∨ w.heap.size ≤ k_) ∧ k_ ≠ gb217)) k_ ∧ some k_ ≠ ((.slice Ao5 x5_1.length co5) : Value).ownBlock) rfl rfl ?aP (fun _ hk => hk) ?aF ?aO ?aB ?aS ?aL ?_; (case aP => exact (k39_mkF _ _ (⟨(rd_T39 l0 x7_1).f0, (rd_T39 l0 x7_1).f1, (rd_T39 l0 x7_1).f2, (rd_T39 l0 x7_1).f3⟩ : S39) (Kd.V_reads' (Kd.V_mono (ok' := (fun k_ => ((fun k_ => ((P0_ k_ ∨ P1_3_ k_) ∨ w.heap.size ≤ k_) ∧ k_ ≠ gb217)) k_ ∧ some k_ ≠ ((.slice Ao5 x5_1.length co5) : Value).ownBlock)) (HL218_3.out) (fun k_ hk => ⟨⟨hk.1, hk.2.2⟩, hk.2.1⟩))).2.1 (Kd.V_F (pw_V_mv (ok' := (fun k_ => ((fun k_ => ((P0_ k_ ∨ P1_3_ k_) ∨ w.heap.size ≤ k_) ∧ k_ ≠ gb217)) k_ ∧ some k_ ≠ ((.slice Ao5 x5_1.length co5) : Value).ownBlock)) (HL218_3.out) (fun k_ hk => ⟨⟨hk.1, hk.2.2⟩, hk.2.1⟩) (by intro h_; (with_reducible repeat (first | apply Kd.V_alloc | apply Kd.V_drewN | apply Kd.V_drew)); exact h_))))); (case aB => exact (qB1 HB.out GE217.out)); (case aF => exact (fun k_ hk => ⟨(.inr (Nat.le_trans (below_size (qB1 HB.out GE217.out)) hk)), Kd.freshB (qK BK217.out) k_ hk⟩)); (case aO => exact (qN HO_5.out)); (case aS => exact (below_size (qB1 HB.out GE217.out))); (case aL => have := LMc7.out; omega); intro v220 w8 ho hb hg hat; rw [← Ny219.out] at ho; replace HO_0 := Aside0.mk (Kd.V_afterv (ok := (fun k_ => ((P0_ k_ ∨ P1_3_ k_) ∨ w.heap.size ≤ k_) ∧ k_ ≠ gb217)) (qV (Kd.V_mono HO_0.out (fun _ hk => ⟨⟨hk.1, hk.2.2⟩, hk.2.1⟩))) hg hat); replace HO_218003 := Aside0.mk (Kd.V_afterv (ok := (fun k_ => ((P0_ k_ ∨ P1_3_ k_) ∨ w.heap.size ≤ k_) ∧ k_ ≠ gb217)) (qV (Kd.V_mono HO_218003.out (fun _ hk => ⟨⟨hk.1, hk.2.2⟩, hk.2.1⟩))) hg hat); replace BK217 := Aside0.mk (blk_grown (qK BK217.out) hg (Kd.N_away HO_5.out (fun _ hk => hk.2))); replace HL218_3 := Aside0.mk (Kd.V_afterv (ok := (fun k_ => ((P0_ k_ ∨ P1_3_ k_) ∨ w.heap.size ≤ k_) ∧ k_ ≠ gb217)) (qV (Kd.V_mono HL218_3.out (fun _ hk => ⟨⟨hk.1, hk.2.2⟩, hk.2.1⟩))) hg hat); replace HB := Aside0.mk (hb); have HO221 := Aside0.mk (ho); clear HO_5 ho hb hg hat)))
       go_roundg k1
       case measure => have := HK1.out; omega
       case rel => exact ⟨(y219), (true), (wrap64 (x7_1 + 1)), qE1, qE1, H', ⟨by have := HK1.out; omega⟩, ⟨by (with_reducible repeat (first | apply Kd.V_alloc | apply Kd.V_drewN | apply Kd.V_drew)); exact Kd.V_mono HO_0.out (fun _ hk => ⟨hk.1.1, ⟨hk.2, hk.1.2⟩⟩)⟩, ⟨by (with_reducible repeat (first | apply Kd.N_alloc | apply Kd.N_drewN | apply Kd.N_drew)); exact HO221.out⟩, ⟨by (with_reducible repeat (first | apply Kd.V_alloc | apply Kd.V_drewN | apply Kd.V_drew)); exact Kd.V_mono HO_218003.out (fun _ hk => ⟨hk.1.1, ⟨hk.2, hk.1.2⟩⟩)⟩, ⟨by (with_reducible repeat (first | refine blk_drewN ?_ _ | refine blk_drew ?_ | refine blk_alloc ?_ _)); exact BK217.out⟩, ⟨by repeat (first | (with_reducible first | exact HB.out | apply below_alloc | apply pw_below_drewN | apply below_drew1 | refine below_set ?_ GE217.out) | exact HB.out)⟩⟩
      ·rw [if_neg c7] at H
       exact absurd H (by simp)
     ·rw [if_neg c6] at H
      exact absurd H (by simp)
    ·replace c5 := Bool.eq_false_iff.mpr c5
     subst c5
     have H1 : (if 0 ≤ x7_1 then (if (Op.bytesLess a1_0.toList (((rd_T39 l0 x7_1).f0).toList)) = true then (if x5_1.length < 2513169434916 then ((some (x5_1 ++ [(⟨a1_0, a1_1, a1_2, l1_3⟩ : S39)] : List (S39))).bind fun y223 => (if y223.length < 2513169434916 then (chicaneref14_put.l0 k1 l0 (y223 ++ [(⟨(rd_T39 l0 x7_1).f0, (rd_T39 l0 x7_1).f1, (rd_T39 l0 x7_1).f2, (rd_T39 l0 x7_1).f3⟩ : S39)]) true (wrap64 (x7_1 + 1)) a1_0 a1_1 a1_2 l1_3) else (none))) else (none)) else (if x5_1.length < 2513169434916 then (chicaneref14_put.l0 k1 l0 (x5_1 ++ [(⟨(rd_T39 l0 x7_1).f0, (rd_T39 l0 x7_1).f1, (rd_T39 l0 x7_1).f2, (rd_T39 l0 x7_1).f3⟩ : S39)]) false (wrap64 (x7_1 + 1)) a1_0 a1_1 a1_2 l1_3) else (none))) else (none)) = some r := by rw [if_neg (show ¬ (false = true) by decide)] at H; exact H
     clear H
     have H := H1
     clear H1
     by_cases c9 : 0 ≤ x7_1
     ·rw [if_pos c9] at H
      have c9b0 : decide (0 ≤ x7_1) = true := decide_eq_true c9
      clear c9
      by_cases c10 : (Op.bytesLess a1_0.toList (((rd_T39 l0 x7_1).f0).toList)) = true
      ·rw [if_pos c10] at H
       have c10b0 : (Op.bytesLess a1_0.toList (((rd_T39 l0 x7_1).f0).toList)) = true := c10
       clear c10
       by_cases c11 : x5_1.length < 2513169434916
       ·rw [if_pos c11] at H
        have LMc11 := Aside0.mk c11
        clear c11
        obtain ⟨y223, hy223⟩ : ∃ y_ : List (S39), y_ = (x5_1 ++ [(⟨a1_0, a1_1, a1_2, l1_3⟩ : S39)]) := ⟨_, rfl⟩
        replace H : (if y223.length < 2513169434916 then (chicaneref14_put.l0 k1 l0 (y223 ++ [(⟨(rd_T39 l0 x7_1).f0, (rd_T39 l0 x7_1).f1, (rd_T39 l0 x7_1).f2, (rd_T39 l0 x7_1).f3⟩ : S39)]) true (wrap64 (x7_1 + 1)) a1_0 a1_1 a1_2 l1_3) else (none)) = some r := by first | (rw [hy223]; with_reducible exact H) | (have H2_ := (Option.bind_some _ _).symm.trans H; rw [hy223]; with_reducible exact H2_) | (have H2_ := (Option.bind_some _ _).symm.trans H; with_reducible exact H2_) | with_reducible exact H | (rw [hy223]; exact H) | exact H
        have Ny223 := Aside0.mk hy223
        clear hy223
        by_cases c12 : y223.length < 2513169434916
        ·rw [if_pos c12] at H
         have LMc12 := Aside0.mk c12
         clear c12
         obtain ⟨y227, hy227⟩ : ∃ y_ : List (S39), y_ = (y223 ++ [(⟨(rd_T39 l0 x7_1).f0, (rd_T39 l0 x7_1).f1, (rd_T39 l0 x7_1).f2, (rd_T39 l0 x7_1).f3⟩ : S39)]) := ⟨_, rfl⟩
         replace H : (chicaneref14_put.l0 k1 l0 y227 true (wrap64 (x7_1 + 1)) a1_0 a1_1 a1_2 l1_3) = some r := by first | (rw [hy227]; with_reducible exact H) | (have H2_ := (Option.bind_some _ _).symm.trans H; rw [hy227]; with_reducible exact H2_) | (have H2_ := (Option.bind_some _ _).symm.trans H; with_reducible exact H2_) | with_reducible exact H | (rw [hy227]; exact H) | exact H
         have Ny227 := Aside0.mk hy227
         clear hy227
         have H' := Aside0.mk H
         clear H
         have hcz13 := qC4 BK217.out
         have p222 : 0 ≤ (x7_1 : Int) := of_decide_eq_true qA
         have q222 : x7_1 < (l0.length : Int) := of_decide_eq_true qA
         obtain ⟨ad222, A222_3, c222_3, e222, hx222_0, hx222_1, hx222_2, hx222_3, hl222_3, hi222_3⟩ := at_T39 (Kd.V_reads' HO_0.out).2.2 x7_1 p222 q222
         cases e222
         obtain ⟨ce222, hce222, hMe222, hcc222⟩ := Kd.V_get HO_0.out z39 x7_1 p222 (by first | exact q222 | exact of_decide_eq_true qA | (have e_ := (Kd.V_reads' HO_0.out).1; omega))
         obtain ⟨ua222_3, uc222_3, rfl, ul222_3, ge222_3⟩ := k39_openF hMe222
         have hv222_3 := hcc222 3 _ rfl
         rw [add_field _ _ 3 (by omega)] at hv222_3
         replace hv222_3 := Option.some.inj (hv222_3.symm.trans hx222_3)
         injection hv222_3 with hva_ hvn_ hvc_
         rw [hva_] at ge222_3
         rw [hvc_] at ul222_3
         have HL222_3 := Aside0.mk (show Kd.V k24 24 _ w.heap.size _ _ ((rd_T39 l0 x7_1).f3) from Kd.V_mk ul222_3 ge222_3)
         clear hva_ hvn_ hvc_ ge222_3 ul222_3 hcc222 hce222
         have HR222_3 := Aside0.mk hi222_3
         have HC222_3 := Aside0.mk hl222_3
         clear hi222_3 hl222_3
         replace p222 := eq_true p222
         replace q222 := eq_true q222
         go_wp2_with (first | ((with_reducible refine gate_builtin (b := .append) (xs := #[.tmp 26, .tmp 28]) rfl ?_); at_builtin; refine Kd.N_append k39 (w0 := w) w.heap.size rfl (.tmp 26) (.tmp 28) 22 39 (.agg #[(.string ⟨#[]⟩), (.bool false), (.int .i64 0), (.slice none 0 0)]) 56 rfl Tryz.underlying22 info39 rfl (by decide) (by omega) (.slice Ao5 x5_1.length co5) x5_1 (⟨a1_0, a1_1, a1_2, l1_3⟩ : S39) [.string a1_0, .bool a1_1, .int .i64 a1_2, .slice A1_3 l1_3.length c1_3] (fun k_ => ((P0_ k_ ∨ P1_3_ k_) ∨ w.heap.size ≤ k_) ∧ k_ ≠ gb217) (fun k_ => ((fun k_ => ((P0_ k_ ∨ P1_3_ k_) ∨ w.heap.size ≤ k_) ∧ k_ ≠ gb217)) k_ ∧ some k_ ≠ ((.slice Ao5 x5_1.length co5) : Value).ownBlock) rfl rfl ?aP (fun _ hk => hk) ?aF ?aO ?aB ?aS ?aL ?_; (case aP => exact (k39_mkF _ _ (⟨a1_0, a1_1, a1_2, l1_3⟩ : S39) (Kd.V_reads' (Kd.V_mono (ok' := (fun k_ => ((fun k_ => ((P0_ k_ ∨ P1_3_ k_) ∨ w.heap.size ≤ k_) ∧ k_ ≠ gb217)) k_ ∧ some k_ ≠ ((.slice Ao5 x5_1.length co5) : Value).ownBlock)) (HO_218003.out) (fun k_ hk => ⟨⟨hk.1, hk.2.2⟩, hk.2.1⟩))).2.1 (Kd.V_F (pw_V_mv (ok' := (fun k_ => ((fun k_ => ((P0_ k_ ∨ P1_3_ k_) ∨ w.heap.size ≤ k_) ∧ k_ ≠ gb217)) k_ ∧ some k_ ≠ ((.slice Ao5 x5_1.length co5) : Value).ownBlock)) (HO_218003.out) (fun k_ hk => ⟨⟨hk.1, hk.2.2⟩, hk.2.1⟩) (by intro h_; (with_reducible repeat (first | apply Kd.V_alloc | apply Kd.V_drewN | apply Kd.V_drew)); exact h_))))); (case aB => exact (qB1 HB.out GE217.out)); (case aF => exact (fun k_ hk => ⟨(.inr (Nat.le_trans (below_size (qB1 HB.out GE217.out)) hk)), Kd.freshB (qK BK217.out) k_ hk⟩)); (case aO => exact (qN HO_5.out)); (case aS => exact (below_size (qB1 HB.out GE217.out))); (case aL => have := LMc11.out; omega); intro v224 w14 ho hb hg hat; rw [← Ny223.out] at ho; replace HO_0 := Aside0.mk (Kd.V_afterv (ok := (fun k_ => ((P0_ k_ ∨ P1_3_ k_) ∨ w.heap.size ≤ k_) ∧ k_ ≠ gb217)) (qV (Kd.V_mono HO_0.out (fun _ hk => ⟨⟨hk.1, hk.2.2⟩, hk.2.1⟩))) hg hat); replace HO_218003 := Aside0.mk (Kd.V_afterv (ok := (fun k_ => ((P0_ k_ ∨ P1_3_ k_) ∨ w.heap.size ≤ k_) ∧ k_ ≠ gb217)) (qV (Kd.V_mono HO_218003.out (fun _ hk => ⟨⟨hk.1, hk.2.2⟩, hk.2.1⟩))) hg hat); replace BK217 := Aside0.mk (blk_grown (qK BK217.out) hg (Kd.N_away HO_5.out (fun _ hk => hk.2))); replace HL222_3 := Aside0.mk (Kd.V_afterv (ok := (fun k_ => ((P0_ k_ ∨ P1_3_ k_) ∨ w.heap.size ≤ k_) ∧ k_ ≠ gb217)) (qV (Kd.V_mono HL222_3.out (fun _ hk => ⟨⟨hk.1, hk.2.2⟩, hk.2.1⟩))) hg hat); replace HB := Aside0.mk (hb); have HO225 := Aside0.mk (ho); clear HO_5 ho hb hg hat; have p226 : 0 ≤ (x7_1 : Int) := of_decide_eq_true qA; have q226 : x7_1 < (l0.length : Int) := of_decide_eq_true qA; obtain ⟨ad226, A226_3, c226_3, e226, hx226_0, hx226_1, hx226_2, hx226_3, hl226_3, hi226_3⟩ := at_T39 (Kd.V_reads' HO_0.out).2.2 x7_1 p226 q226; obtain rfl : ad222 = ad226 := (by injection e226); obtain ⟨ce226, hce226, hMe226, hcc226⟩ := Kd.V_get HO_0.out z39 x7_1 p226 (by first | exact q226 | exact of_decide_eq_true qA | (have e_ := (Kd.V_reads' HO_0.out).1; omega)); obtain ⟨ua226_3, uc226_3, rfl, ul226_3, ge226_3⟩ := k39_openF hMe226; have hv226_3 := hcc226 3 _ rfl; rw [add_field _ _ 3 (by omega)] at hv226_3; replace hv226_3 := Option.some.inj (hv226_3.symm.trans hx226_3); injection hv226_3 with hva_ hvn_ hvc_; rw [hva_] at ge226_3; rw [hvc_] at ul226_3; have HL226_3 := Aside0.mk (show Kd.V k24 24 _ w.heap.size _ _ ((rd_T39 l0 x7_1).f3) from Kd.V_mk ul226_3 ge226_3); clear hva_ hvn_ hvc_ ge226_3 ul226_3 hcc226 hce226; have HR226_3 := Aside0.mk hi226_3; have HC226_3 := Aside0.mk hl226_3; clear hi226_3 hl226_3; replace p226 := eq_true p226; replace q226 := eq_true q226) | ((with_reducible refine gate_builtin (b := .append) (xs := #[.tmp 30, .tmp 35]) rfl ?_); at_builtin; refine Kd.N_append k39 (w0 := w) w.heap.size rfl (.tmp 30) (.tmp 35) 22 39 (.agg #[(.string ⟨#[]⟩), (.bool false), (.int .i64 0), (.slice none 0 0)]) 56 rfl Tryz.underlying22 info39 rfl (by decide) (by omega) v224 y223 (⟨(rd_T39 l0 x7_1).f0, (rd_T39 l0 x7_1).f1, (rd_T39 l0 x7_1).f2, (rd_T39 l0 x7_1).f3⟩ : S39) [.string ((rd_T39 l0 x7_1).f0), .bool ((rd_T39 l0 x7_1).f1), .int .i64 ((rd_T39 l0 x7_1).f2), .slice A226_3 ((rd_T39 l0 x7_1).f3).length c226_3] (fun k_ => ((P0_ k_ ∨ P1_3_ k_) ∨ w.heap.size ≤ k_) ∧ k_ ≠ gb217) (fun k_ => ((fun k_ => ((P0_ k_ ∨ P1_3_ k_) ∨ w.heap.size ≤ k_) ∧ k_ ≠ gb217)) k_ ∧ some k_ ≠ (v224 : Value).ownBlock) rfl rfl ?aP (fun _ hk => hk) ?aF ?aO ?aB ?aS ?aL ?_; (case aP => exact (k39_mkF _ _ (⟨(rd_T39 l0 x7_1).f0, (rd_T39 l0 x7_1).f1, (rd_T39 l0 x7_1).f2, (rd_T39 l0 x7_1).f3⟩ : S39) (Kd.V_reads' (Kd.V_mono (ok' := (fun k_ => ((fun k_ => ((P0_ k_ ∨ P1_3_ k_) ∨ w.heap.size ≤ k_) ∧ k_ ≠ gb217)) k_ ∧ some k_ ≠ (v224 : Value).ownBlock)) (HL226_3.out) (fun k_ hk => ⟨⟨hk.1.1, hk.1.2⟩, hk.2⟩))).2.1 (Kd.V_F (pw_V_mv (ok' := (fun k_ => ((fun k_ => ((P0_ k_ ∨ P1_3_ k_) ∨ w.heap.size ≤ k_) ∧ k_ ≠ gb217)) k_ ∧ some k_ ≠ (v224 : Value).ownBlock)) (HL226_3.out) (fun k_ hk => ⟨⟨hk.1.1, hk.1.2⟩, hk.2⟩) (by intro h_; (with_reducible repeat (first | apply Kd.V_alloc | apply Kd.V_drewN | apply Kd.V_drew)); exact h_))))); (case aB => exact (qB1 HB.out GE217.out)); (case aF => exact (fun k_ hk => ⟨(.inr (Nat.le_trans (below_size (qB1 HB.out GE217.out)) hk)), Kd.freshB (qK BK217.out) k_ hk⟩)); (case aO => exact (qN HO225.out)); (case aS => exact (below_size (qB1 HB.out GE217.out))); (case aL => have := LMc12.out; omega); intro v228 w15 ho hb hg hat; rw [← Ny227.out] at ho; replace HO_0 := Aside0.mk (Kd.V_afterv (ok := (fun k_ => ((P0_ k_ ∨ P1_3_ k_) ∨ w.heap.size ≤ k_) ∧ k_ ≠ gb217)) (qV HO_0.out) hg hat); replace HO_218003 := Aside0.mk (Kd.V_afterv (ok := (fun k_ => ((P0_ k_ ∨ P1_3_ k_) ∨ w.heap.size ≤ k_) ∧ k_ ≠ gb217)) (qV HO_218003.out) hg hat); replace BK217 := Aside0.mk (blk_grown (qK BK217.out) hg (Kd.N_away HO225.out (fun _ hk => hk.2))); replace HL222_3 := Aside0.mk (Kd.V_afterv (ok := (fun k_ => ((P0_ k_ ∨ P1_3_ k_) ∨ w.heap.size ≤ k_) ∧ k_ ≠ gb217)) (qV HL222_3.out) hg hat); replace HL226_3 := Aside0.mk (Kd.V_afterv (ok := (fun k_ => ((P0_ k_ ∨ P1_3_ k_) ∨ w.heap.size ≤ k_) ∧ k_ ≠ gb217)) (qV HL226_3.out) hg hat); replace HB := Aside0.mk (hb); have HO229 := Aside0.mk (ho); clear HO225 ho hb hg hat))
         repeat (go_quiet (first | ((with_reducible refine gate_builtin (b := .append) (xs := #[.tmp 26, .tmp 28]) rfl ?_); at_builtin; refine Kd.N_append k39 (w0 := w) w.heap.size rfl (.tmp 26) (.tmp 28) 22 39 (.agg #[(.string ⟨#[]⟩), (.bool false), (.int .i64 0), (.slice none 0 0)]) 56 rfl Tryz.underlying22 info39 rfl (by decide) (by omega) (.slice Ao5 x5_1.length co5) x5_1 (⟨a1_0, a1_1, a1_2, l1_3⟩ : S39) [.string a1_0, .bool a1_1, .int .i64 a1_2, .slice A1_3 l1_3.length c1_3] (fun k_ => ((P0_ k_ ∨ P1_3_ k_) ∨ w.heap.size ≤ k_) ∧ k_ ≠ gb217) (fun k_ => ((fun k_ => ((P0_ k_ ∨ P1_3_ k_) ∨ w.heap.size ≤ k_) ∧ k_ ≠ gb217)) k_ ∧ some k_ ≠ ((.slice Ao5 x5_1.length co5) : Value).ownBlock) rfl rfl ?aP (fun _ hk => hk) ?aF ?aO ?aB ?aS ?aL ?_; (case aP => exact (k39_mkF _ _ (⟨a1_0, a1_1, a1_2, l1_3⟩ : S39) (Kd.V_reads' (Kd.V_mono (ok' := (fun k_ => ((fun k_ => ((P0_ k_ ∨ P1_3_ k_) ∨ w.heap.size ≤ k_) ∧ k_ ≠ gb217)) k_ ∧ some k_ ≠ ((.slice Ao5 x5_1.length co5) : Value).ownBlock)) (HO_218003.out) (fun k_ hk => ⟨⟨hk.1, hk.2.2⟩, hk.2.1⟩))).2.1 (Kd.V_F (pw_V_mv (ok' := (fun k_ => ((fun k_ => ((P0_ k_ ∨ P1_3_ k_) ∨ w.heap.size ≤ k_) ∧ k_ ≠ gb217)) k_ ∧ some k_ ≠ ((.slice Ao5 x5_1.length co5) : Value).ownBlock)) (HO_218003.out) (fun k_ hk => ⟨⟨hk.1, hk.2.2⟩, hk.2.1⟩) (by intro h_; (with_reducible repeat (first | apply Kd.V_alloc | apply Kd.V_drewN | apply Kd.V_drew)); exact h_))))); (case aB => exact (qB1 HB.out GE217.out)); (case aF => exact (fun k_ hk => ⟨(.inr (Nat.le_trans (below_size (qB1 HB.out GE217.out)) hk)), Kd.freshB (qK BK217.out) k_ hk⟩)); (case aO => exact (qN HO_5.out)); (case aS => exact (below_size (qB1 HB.out GE217.out))); (case aL => have := LMc11.out; omega); intro v224 w14 ho hb hg hat; rw [← Ny223.out] at ho; replace HO_0 := Aside0.mk (Kd.V_afterv (ok := (fun k_ => ((P0_ k_ ∨ P1_3_ k_) ∨ w.heap.size ≤ k_) ∧ k_ ≠ gb217)) (qV (Kd.V_mono HO_0.out (fun _ hk => ⟨⟨hk.1, hk.2.2⟩, hk.2.1⟩))) hg hat); replace HO_218003 := Aside0.mk (Kd.V_afterv (ok := (fun k_ => ((P0_ k_ ∨ P1_3_ k_) ∨ w.heap.size ≤ k_) ∧ k_ ≠ gb217)) (qV (Kd.V_mono HO_218003.out (fun _ hk => ⟨⟨hk.1, hk.2.2⟩, hk.2.1⟩))) hg hat); replace BK217 := Aside0.mk (blk_grown (qK BK217.out) hg (Kd.N_away HO_5.out (fun _ hk => hk.2))); replace HL222_3 := Aside0.mk (Kd.V_afterv (ok := (fun k_ => ((P0_ k_ ∨ P1_3_ k_) ∨ w.heap.size ≤ k_) ∧ k_ ≠ gb217)) (qV (Kd.V_mono HL222_3.out (fun _ hk => ⟨⟨hk.1, hk.2.2⟩, hk.2.1⟩))) hg hat); replace HB := Aside0.mk (hb); have HO225 := Aside0.mk (ho); clear HO_5 ho hb hg hat; have p226 : 0 ≤ (x7_1 : Int) := of_decide_eq_true qA; have q226 : x7_1 < (l0.length : Int) := of_decide_eq_true qA; obtain ⟨ad226, A226_3, c226_3, e226, hx226_0, hx226_1, hx226_2, hx226_3, hl226_3, hi226_3⟩ := at_T39 (Kd.V_reads' HO_0.out).2.2 x7_1 p226 q226; obtain rfl : ad222 = ad226 := (by injection e226); obtain ⟨ce226, hce226, hMe226, hcc226⟩ := Kd.V_get HO_0.out z39 x7_1 p226 (by first | exact q226 | exact of_decide_eq_true qA | (have e_ := (Kd.V_reads' HO_0.out).1; omega)); obtain ⟨ua226_3, uc226_3, rfl, ul226_3, ge226_3⟩ := k39_openF hMe226; have hv226_3 := hcc226 3 _ rfl; rw [add_field _ _ 3 (by omega)] at hv226_3; replace hv226_3 := Option.some.inj (hv226_3.symm.trans hx226_3); injection hv226_3 with hva_ hvn_ hvc_; rw [hva_] at ge226_3; rw [hvc_] at ul226_3; have HL226_3 := Aside0.mk (show Kd.V k24 24 _ w.heap.size _ _ ((rd_T39 l0 x7_1).f3) from Kd.V_mk ul226_3 ge226_3); clear hva_ hvn_ hvc_ ge226_3 ul226_3 hcc226 hce226; have HR226_3 := Aside0.mk hi226_3; have HC226_3 := Aside0.mk hl226_3; clear hi226_3 hl226_3; replace p226 := eq_true p226; replace q226 := eq_true q226) | ((with_reducible refine gate_builtin (b := .append) (xs := #[.tmp 30, .tmp 35]) rfl ?_); at_builtin; refine Kd.N_append k39 (w0 := w) w.heap.size rfl (.tmp 30) (.tmp 35) 22 39 (.agg #[(.string ⟨#[]⟩), (.bool false), (.int .i64 0), (.slice none 0 0)]) 56 rfl Tryz.underlying22 info39 rfl (by decide) (by omega) v224 y223 (⟨(rd_T39 l0 x7_1).f0, (rd_T39 l0 x7_1).f1, (rd_T39 l0 x7_1).f2, (rd_T39 l0 x7_1).f3⟩ : S39) [.string ((rd_T39 l0 x7_1).f0), .bool ((rd_T39 l0 x7_1).f1), .int .i64 ((rd_T39 l0 x7_1).f2), .slice A226_3 ((rd_T39 l0 x7_1).f3).length c226_3] (fun k_ => ((P0_ k_ ∨ P1_3_ k_) ∨ w.heap.size ≤ k_) ∧ k_ ≠ gb217) (fun k_ => ((fun k_ => ((P0_ k_ ∨ P1_3_ k_) ∨ w.heap.size ≤ k_) ∧ k_ ≠ gb217)) k_ ∧ some k_ ≠ (v224 : Value).ownBlock) rfl rfl ?aP (fun _ hk => hk) ?aF ?aO ?aB ?aS ?aL ?_; (case aP => exact (k39_mkF _ _ (⟨(rd_T39 l0 x7_1).f0, (rd_T39 l0 x7_1).f1, (rd_T39 l0 x7_1).f2, (rd_T39 l0 x7_1).f3⟩ : S39) (Kd.V_reads' (Kd.V_mono (ok' := (fun k_ => ((fun k_ => ((P0_ k_ ∨ P1_3_ k_) ∨ w.heap.size ≤ k_) ∧ k_ ≠ gb217)) k_ ∧ some k_ ≠ (v224 : Value).ownBlock)) (HL226_3.out) (fun k_ hk => ⟨⟨hk.1.1, hk.1.2⟩, hk.2⟩))).2.1 (Kd.V_F (pw_V_mv (ok' := (fun k_ => ((fun k_ => ((P0_ k_ ∨ P1_3_ k_) ∨ w.heap.size ≤ k_) ∧ k_ ≠ gb217)) k_ ∧ some k_ ≠ (v224 : Value).ownBlock)) (HL226_3.out) (fun k_ hk => ⟨⟨hk.1.1, hk.1.2⟩, hk.2⟩) (by intro h_; (with_reducible repeat (first | apply Kd.V_alloc | apply Kd.V_drewN | apply Kd.V_drew)); exact h_))))); (case aB => exact (qB1 HB.out GE217.out)); (case aF => exact (fun k_ hk => ⟨(.inr (Nat.le_trans (below_size (qB1 HB.out GE217.out)) hk)), Kd.freshB (qK BK217.out) k_ hk⟩)); (case aO => exact (qN HO225.out)); (case aS => exact (below_size (qB1 HB.out GE217.out))); (case aL => have := LMc12.out; omega); intro v228 w15 ho hb hg hat; rw [← Ny227.out] at ho; replace HO_0 := Aside0.mk (Kd.V_afterv (ok := (fun k_ => ((P0_ k_ ∨ P1_3_ k_) ∨ w.heap.size ≤ k_) ∧ k_ ≠ gb217)) (qV HO_0.out) hg hat); replace HO_218003 := Aside0.mk (Kd.V_afterv (ok := (fun k_ => ((P0_ k_ ∨ P1_3_ k_) ∨ w.heap.size ≤ k_) ∧ k_ ≠ gb217)) (qV HO_218003.out) hg hat); replace BK217 := Aside0.mk (blk_grown (qK BK217.out) hg (Kd.N_away HO225.out (fun _ hk => hk.2))); replace HL222_3 := Aside0.mk (Kd.V_afterv (ok := (fun k_ => ((P0_ k_ ∨ P1_3_ k_) ∨ w.heap.size ≤ k_) ∧ k_ ≠ gb217)) (qV HL222_3.out) hg hat); replace HL226_3 := Aside0.mk (Kd.V_afterv (ok := (fun k_ => ((P0_ k_ ∨ P1_3_ k_) ∨ w.heap.size ≤ k_) ∧ k_ ≠ gb217)) (qV HL226_3.out) hg hat); replace HB := Aside0.mk (hb); have HO229 := Aside0.mk (ho); clear HO225 ho hb hg hat)); try go_wp2_with (first | ((with_reducible refine gate_builtin (b := .append) (xs := #[.tmp 26, .tmp 28]) rfl ?_); at_builtin; refine Kd.N_append k39 (w0 := w) w.heap.size rfl (.tmp 26) (.tmp 28) 22 39 (.agg #[(.string ⟨#[]⟩), (.bool false), (.int .i64 0), (.slice none 0 0)]) 56 rfl Tryz.underlying22 info39 rfl (by decide) (by omega) (.slice Ao5 x5_1.length co5) x5_1 (⟨a1_0, a1_1, a1_2, l1_3⟩ : S39) [.string a1_0, .bool a1_1, .int .i64 a1_2, .slice A1_3 l1_3.length c1_3] (fun k_ => ((P0_ k_ ∨ P1_3_ k_) ∨ w.heap.size ≤ k_) ∧ k_ ≠ gb217) (fun k_ => ((fun k_ => ((P0_ k_ ∨ P1_3_ k_) ∨ w.heap.size ≤ k_) ∧ k_ ≠ gb217)) k_ ∧ some k_ ≠ ((.slice Ao5 x5_1.length co5) : Value).ownBlock) rfl rfl ?aP (fun _ hk => hk) ?aF ?aO ?aB ?aS ?aL ?_; (case aP => exact (k39_mkF _ _ (⟨a1_0, a1_1, a1_2, l1_3⟩ : S39) (Kd.V_reads' (Kd.V_mono (ok' := (fun k_ => ((fun k_ => ((P0_ k_ ∨ P1_3_ k_) ∨ w.heap.size ≤ k_) ∧ k_ ≠ gb217)) k_ ∧ some k_ ≠ ((.slice Ao5 x5_1.length co5) : Value).ownBlock)) (HO_218003.out) (fun k_ hk => ⟨⟨hk.1, hk.2.2⟩, hk.2.1⟩))).2.1 (Kd.V_F (pw_V_mv (ok' := (fun k_ => ((fun k_ => ((P0_ k_ ∨ P1_3_ k_) ∨ w.heap.size ≤ k_) ∧ k_ ≠ gb217)) k_ ∧ some k_ ≠ ((.slice Ao5 x5_1.length co5) : Value).ownBlock)) (HO_218003.out) (fun k_ hk => ⟨⟨hk.1, hk.2.2⟩, hk.2.1⟩) (by intro h_; (with_reducible repeat (first | apply Kd.V_alloc | apply Kd.V_drewN | apply Kd.V_drew)); exact h_))))); (case aB => exact (qB1 HB.out GE217.out)); (case aF => exact (fun k_ hk => ⟨(.inr (Nat.le_trans (below_size (qB1 HB.out GE217.out)) hk)), Kd.freshB (qK BK217.out) k_ hk⟩)); (case aO => exact (qN HO_5.out)); (case aS => exact (below_size (qB1 HB.out GE217.out))); (case aL => have := LMc11.out; omega); intro v224 w14 ho hb hg hat; rw [← Ny223.out] at ho; replace HO_0 := Aside0.mk (Kd.V_afterv (ok := (fun k_ => ((P0_ k_ ∨ P1_3_ k_) ∨ w.heap.size ≤ k_) ∧ k_ ≠ gb217)) (qV (Kd.V_mono HO_0.out (fun _ hk => ⟨⟨hk.1, hk.2.2⟩, hk.2.1⟩))) hg hat); replace HO_218003 := Aside0.mk (Kd.V_afterv (ok := (fun k_ => ((P0_ k_ ∨ P1_3_ k_) ∨ w.heap.size ≤ k_) ∧ k_ ≠ gb217)) (qV (Kd.V_mono HO_218003.out (fun _ hk => ⟨⟨hk.1, hk.2.2⟩, hk.2.1⟩))) hg hat); replace BK217 := Aside0.mk (blk_grown (qK BK217.out) hg (Kd.N_away HO_5.out (fun _ hk => hk.2))); replace HL222_3 := Aside0.mk (Kd.V_afterv (ok := (fun k_ => ((P0_ k_ ∨ P1_3_ k_) ∨ w.heap.size ≤ k_) ∧ k_ ≠ gb217)) (qV (Kd.V_mono HL222_3.out (fun _ hk => ⟨⟨hk.1, hk.2.2⟩, hk.2.1⟩))) hg hat); replace HB := Aside0.mk (hb); have HO225 := Aside0.mk (ho); clear HO_5 ho hb hg hat; have p226 : 0 ≤ (x7_1 : Int) := of_decide_eq_true qA; have q226 : x7_1 < (l0.length : Int) := of_decide_eq_true qA; obtain ⟨ad226, A226_3, c226_3, e226, hx226_0, hx226_1, hx226_2, hx226_3, hl226_3, hi226_3⟩ := at_T39 (Kd.V_reads' HO_0.out).2.2 x7_1 p226 q226; obtain rfl : ad222 = ad226 := (by injection e226); obtain ⟨ce226, hce226, hMe226, hcc226⟩ := Kd.V_get HO_0.out z39 x7_1 p226 (by first | exact q226 | exact of_decide_eq_true qA | (have e_ := (Kd.V_reads' HO_0.out).1; omega)); obtain ⟨ua226_3, uc226_3, rfl, ul226_3, ge226_3⟩ := k39_openF hMe226; have hv226_3 := hcc226 3 _ rfl; rw [add_field _ _ 3 (by omega)] at hv226_3; replace hv226_3 := Option.some.inj (hv226_3.symm.trans hx226_3); injection hv226_3 with hva_ hvn_ hvc_; rw [hva_] at ge226_3; rw [hvc_] at ul226_3; have HL226_3 := Aside0.mk (show Kd.V k24 24 _ w.heap.size _ _ ((rd_T39 l0 x7_1).f3) from Kd.V_mk ul226_3 ge226_3); clear hva_ hvn_ hvc_ ge226_3 ul226_3 hcc226 hce226; have HR226_3 := Aside0.mk hi226_3; have HC226_3 := Aside0.mk hl226_3; clear hi226_3 hl226_3; replace p226 := eq_true p226; replace q226 := eq_true q226) | ((with_reducible refine gate_builtin (b := .append) (xs := #[.tmp 30, .tmp 35]) rfl ?_); at_builtin; refine Kd.N_append k39 (w0 := w) w.heap.size rfl (.tmp 30) (.tmp 35) 22 39 (.agg #[(.string ⟨#[]⟩), (.bool false), (.int .i64 0), (.slice none 0 0)]) 56 rfl Tryz.underlying22 info39 rfl (by decide) (by omega) v224 y223 (⟨(rd_T39 l0 x7_1).f0, (rd_T39 l0 x7_1).f1, (rd_T39 l0 x7_1).f2, (rd_T39 l0 x7_1).f3⟩ : S39) [.string ((rd_T39 l0 x7_1).f0), .bool ((rd_T39 l0 x7_1).f1), .int .i64 ((rd_T39 l0 x7_1).f2), .slice A226_3 ((rd_T39 l0 x7_1).f3).length c226_3] (fun k_ => ((P0_ k_ ∨ P1_3_ k_) ∨ w.heap.size ≤ k_) ∧ k_ ≠ gb217) (fun k_ => ((fun k_ => ((P0_ k_ ∨ P1_3_ k_) ∨ w.heap.size ≤ k_) ∧ k_ ≠ gb217)) k_ ∧ some k_ ≠ (v224 : Value).ownBlock) rfl rfl ?aP (fun _ hk => hk) ?aF ?aO ?aB ?aS ?aL ?_; (case aP => exact (k39_mkF _ _ (⟨(rd_T39 l0 x7_1).f0, (rd_T39 l0 x7_1).f1, (rd_T39 l0 x7_1).f2, (rd_T39 l0 x7_1).f3⟩ : S39) (Kd.V_reads' (Kd.V_mono (ok' := (fun k_ => ((fun k_ => ((P0_ k_ ∨ P1_3_ k_) ∨ w.heap.size ≤ k_) ∧ k_ ≠ gb217)) k_ ∧ some k_ ≠ (v224 : Value).ownBlock)) (HL226_3.out) (fun k_ hk => ⟨⟨hk.1.1, hk.1.2⟩, hk.2⟩))).2.1 (Kd.V_F (pw_V_mv (ok' := (fun k_ => ((fun k_ => ((P0_ k_ ∨ P1_3_ k_) ∨ w.heap.size ≤ k_) ∧ k_ ≠ gb217)) k_ ∧ some k_ ≠ (v224 : Value).ownBlock)) (HL226_3.out) (fun k_ hk => ⟨⟨hk.1.1, hk.1.2⟩, hk.2⟩) (by intro h_; (with_reducible repeat (first | apply Kd.V_alloc | apply Kd.V_drewN | apply Kd.V_drew)); exact h_))))); (case aB => exact (qB1 HB.out GE217.out)); (case aF => exact (fun k_ hk => ⟨(.inr (Nat.le_trans (below_size (qB1 HB.out GE217.out)) hk)), Kd.freshB (qK BK217.out) k_ hk⟩)); (case aO => exact (qN HO225.out)); (case aS => exact (below_size (qB1 HB.out GE217.out))); (case aL => have := LMc12.out; omega); intro v228 w15 ho hb hg hat; rw [← Ny227.out] at ho; replace HO_0 := Aside0.mk (Kd.V_afterv (ok := (fun k_ => ((P0_ k_ ∨ P1_3_ k_) ∨ w.heap.size ≤ k_) ∧ k_ ≠ gb217)) (qV HO_0.out) hg hat); replace HO_218003 := Aside0.mk (Kd.V_afterv (ok := (fun k_ => ((P0_ k_ ∨ P1_3_ k_) ∨ w.heap.size ≤ k_) ∧ k_ ≠ gb217)) (qV HO_218003.out) hg hat); replace BK217 := Aside0.mk (blk_grown (qK BK217.out) hg (Kd.N_away HO225.out (fun _ hk => hk.2))); replace HL222_3 := Aside0.mk (Kd.V_afterv (ok := (fun k_ => ((P0_ k_ ∨ P1_3_ k_) ∨ w.heap.size ≤ k_) ∧ k_ ≠ gb217)) (qV HL222_3.out) hg hat); replace HL226_3 := Aside0.mk (Kd.V_afterv (ok := (fun k_ => ((P0_ k_ ∨ P1_3_ k_) ∨ w.heap.size ≤ k_) ∧ k_ ≠ gb217)) (qV HL226_3.out) hg hat); replace HB := Aside0.mk (hb); have HO229 := Aside0.mk (ho); clear HO225 ho hb hg hat)))
         go_roundg k1
         case measure => have := HK1.out; omega
         case rel => exact ⟨(y227), (true), (wrap64 (x7_1 + 1)), qE1, qE1, H', ⟨by have := HK1.out; omega⟩, ⟨by (with_reducible repeat (first | apply Kd.V_alloc | apply Kd.V_drewN | apply Kd.V_drew)); exact Kd.V_mono HO_0.out (fun _ hk => ⟨hk.1.1, ⟨hk.2, hk.1.2⟩⟩)⟩, ⟨by (with_reducible repeat (first | apply Kd.N_alloc | apply Kd.N_drewN | apply Kd.N_drew)); exact HO229.out⟩, ⟨by (with_reducible repeat (first | apply Kd.V_alloc | apply Kd.V_drewN | apply Kd.V_drew)); exact Kd.V_mono HO_218003.out (fun _ hk => ⟨hk.1.1, ⟨hk.2, hk.1.2⟩⟩)⟩, ⟨by (with_reducible repeat (first | refine blk_drewN ?_ _ | refine blk_drew ?_ | refine blk_alloc ?_ _)); exact BK217.out⟩, ⟨by repeat (first | (with_reducible first | exact HB.out | apply below_alloc | apply pw_below_drewN | apply below_drew1 | refine below_set ?_ GE217.out) | exact HB.out)⟩⟩
        ·rw [if_neg c12] at H
         exact absurd H (by simp)
       ·rw [if_neg c11] at H
        exact absurd H (by simp)
      ·rw [if_neg c10] at H
       have c10b0 : (Op.bytesLess a1_0.toList (((rd_T39 l0 x7_1).f0).toList)) = false := by simpa using c10
       clear c10
       by_cases c16 : x5_1.length < 2513169434916
       ·rw [if_pos c16] at H
        have LMc16 := Aside0.mk c16
        clear c16
        obtain ⟨y231, hy231⟩ : ∃ y_ : List (S39), y_ = (x5_1 ++ [(⟨(rd_T39 l0 x7_1).f0, (rd_T39 l0 x7_1).f1, (rd_T39 l0 x7_1).f2, (rd_T39 l0 x7_1).f3⟩ : S39)]) := ⟨_, rfl⟩
        replace H : (chicaneref14_put.l0 k1 l0 y231 false (wrap64 (x7_1 + 1)) a1_0 a1_1 a1_2 l1_3) = some r := by first | (rw [hy231]; with_reducible exact H) | (have H2_ := (Option.bind_some _ _).symm.trans H; rw [hy231]; with_reducible exact H2_) | (have H2_ := (Option.bind_some _ _).symm.trans H; with_reducible exact H2_) | with_reducible exact H | (rw [hy231]; exact H) | exact H
        have Ny231 := Aside0.mk hy231
        clear hy231
        have H' := Aside0.mk H
        clear H
        have hcz17 := qC4 BK217.out
        have p222 : 0 ≤ (x7_1 : Int) := of_decide_eq_true qA
        have q222 : x7_1 < (l0.length : Int) := of_decide_eq_true qA
        obtain ⟨ad222, A222_3, c222_3, e222, hx222_0, hx222_1, hx222_2, hx222_3, hl222_3, hi222_3⟩ := at_T39 (Kd.V_reads' HO_0.out).2.2 x7_1 p222 q222
        cases e222
        obtain ⟨ce222, hce222, hMe222, hcc222⟩ := Kd.V_get HO_0.out z39 x7_1 p222 (by first | exact q222 | exact of_decide_eq_true qA | (have e_ := (Kd.V_reads' HO_0.out).1; omega))
        obtain ⟨ua222_3, uc222_3, rfl, ul222_3, ge222_3⟩ := k39_openF hMe222
        have hv222_3 := hcc222 3 _ rfl
        rw [add_field _ _ 3 (by omega)] at hv222_3
        replace hv222_3 := Option.some.inj (hv222_3.symm.trans hx222_3)
        injection hv222_3 with hva_ hvn_ hvc_
        rw [hva_] at ge222_3
        rw [hvc_] at ul222_3
        have HL222_3 := Aside0.mk (show Kd.V k24 24 _ w.heap.size _ _ ((rd_T39 l0 x7_1).f3) from Kd.V_mk ul222_3 ge222_3)
        clear hva_ hvn_ hvc_ ge222_3 ul222_3 hcc222 hce222
        have HR222_3 := Aside0.mk hi222_3
        have HC222_3 := Aside0.mk hl222_3
        clear hi222_3 hl222_3
        replace p222 := eq_true p222
        replace q222 := eq_true q222
        have p230 : 0 ≤ (x7_1 : Int) := of_decide_eq_true qA
        have q230 : x7_1 < (l0.length : Int) := of_decide_eq_true qA
        obtain ⟨ad230, A230_3, c230_3, e230, hx230_0, hx230_1, hx230_2, hx230_3, hl230_3, hi230_3⟩ := at_T39 (Kd.V_reads' HO_0.out).2.2 x7_1 p230 q230
        obtain rfl : ad222 = ad230 := (by injection e230)
        obtain ⟨ce230, hce230, hMe230, hcc230⟩ := Kd.V_get HO_0.out z39 x7_1 p230 (by first | exact q230 | exact of_decide_eq_true qA | (have e_ := (Kd.V_reads' HO_0.out).1; omega))
        obtain ⟨ua230_3, uc230_3, rfl, ul230_3, ge230_3⟩ := k39_openF hMe230
        have hv230_3 := hcc230 3 _ rfl
        rw [add_field _ _ 3 (by omega)] at hv230_3
        replace hv230_3 := Option.some.inj (hv230_3.symm.trans hx230_3)
        injection hv230_3 with hva_ hvn_ hvc_
        rw [hva_] at ge230_3
        rw [hvc_] at ul230_3
        have HL230_3 := Aside0.mk (show Kd.V k24 24 _ w.heap.size _ _ ((rd_T39 l0 x7_1).f3) from Kd.V_mk ul230_3 ge230_3)
        clear hva_ hvn_ hvc_ ge230_3 ul230_3 hcc230 hce230
        have HR230_3 := Aside0.mk hi230_3
        have HC230_3 := Aside0.mk hl230_3
        clear hi230_3 hl230_3
        replace p230 := eq_true p230
        replace q230 := eq_true q230
        have ea_ := Option.some.inj (hx222_3.symm.trans hx230_3)
        injection ea_ with ea_ en_ ec_
        subst ea_
        subst ec_
        clear en_
        go_wp2_with (first | ((with_reducible refine gate_builtin (b := .append) (xs := #[.tmp 30, .tmp 35]) rfl ?_); at_builtin; refine Kd.N_append k39 (w0 := w) w.heap.size rfl (.tmp 30) (.tmp 35) 22 39 (.agg #[(.string ⟨#[]⟩), (.bool false), (.int .i64 0), (.slice none 0 0)]) 56 rfl Tryz.underlying22 info39 rfl (by decide) (by omega) (.slice Ao5 x5_1.length co5) x5_1 (⟨(rd_T39 l0 x7_1).f0, (rd_T39 l0 x7_1).f1, (rd_T39 l0 x7_1).f2, (rd_T39 l0 x7_1).f3⟩ : S39) [.string ((rd_T39 l0 x7_1).f0), .bool ((rd_T39 l0 x7_1).f1), .int .i64 ((rd_T39 l0 x7_1).f2), .slice A222_3 ((rd_T39 l0 x7_1).f3).length c222_3] (fun k_ => ((P0_ k_ ∨ P1_3_ k_) ∨ w.heap.size ≤ k_) ∧ k_ ≠ gb217) (fun k_ => ((fun k_ => ((P0_ k_ ∨ P1_3_ k_) ∨ w.heap.size ≤ k_) ∧ k_ ≠ gb217)) k_ ∧ some k_ ≠ ((.slice Ao5 x5_1.length co5) : Value).ownBlock) rfl rfl ?aP (fun _ hk => hk) ?aF ?aO ?aB ?aS ?aL ?_; (case aP => exact (k39_mkF _ _ (⟨(rd_T39 l0 x7_1).f0, (rd_T39 l0 x7_1).f1, (rd_T39 l0 x7_1).f2, (rd_T39 l0 x7_1).f3⟩ : S39) (Kd.V_reads' (Kd.V_mono (ok' := (fun k_ => ((fun k_ => ((P0_ k_ ∨ P1_3_ k_) ∨ w.heap.size ≤ k_) ∧ k_ ≠ gb217)) k_ ∧ some k_ ≠ ((.slice Ao5 x5_1.length co5) : Value).ownBlock)) (HL230_3.out) (fun k_ hk => ⟨⟨hk.1, hk.2.2⟩, hk.2.1⟩))).2.1 (Kd.V_F (pw_V_mv (ok' := (fun k_ => ((fun k_ => ((P0_ k_ ∨ P1_3_ k_) ∨ w.heap.size ≤ k_) ∧ k_ ≠ gb217)) k_ ∧ some k_ ≠ ((.slice Ao5 x5_1.length co5) : Value).ownBlock)) (HL230_3.out) (fun k_ hk => ⟨⟨hk.1, hk.2.2⟩, hk.2.1⟩) (by intro h_; (with_reducible repeat (first | apply Kd.V_alloc | apply Kd.V_drewN | apply Kd.V_drew)); exact h_))))); (case aB => exact (qB1 HB.out GE217.out)); (case aF => exact (fun k_ hk => ⟨(.inr (Nat.le_trans (below_size (qB1 HB.out GE217.out)) hk)), Kd.freshB (qK BK217.out) k_ hk⟩)); (case aO => exact (qN HO_5.out)); (case aS => exact (below_size (qB1 HB.out GE217.out))); (case aL => have := LMc16.out; omega); intro v232 w18 ho hb hg hat; rw [← Ny231.out] at ho; replace HO_0 := Aside0.mk (Kd.V_afterv (ok := (fun k_ => ((P0_ k_ ∨ P1_3_ k_) ∨ w.heap.size ≤ k_) ∧ k_ ≠ gb217)) (qV (Kd.V_mono HO_0.out (fun _ hk => ⟨⟨hk.1, hk.2.2⟩, hk.2.1⟩))) hg hat); replace HO_218003 := Aside0.mk (Kd.V_afterv (ok := (fun k_ => ((P0_ k_ ∨ P1_3_ k_) ∨ w.heap.size ≤ k_) ∧ k_ ≠ gb217)) (qV (Kd.V_mono HO_218003.out (fun _ hk => ⟨⟨hk.1, hk.2.2⟩, hk.2.1⟩))) hg hat); replace BK217 := Aside0.mk (blk_grown (qK BK217.out) hg (Kd.N_away HO_5.out (fun _ hk => hk.2))); replace HL222_3 := Aside0.mk (Kd.V_afterv (ok := (fun k_ => ((P0_ k_ ∨ P1_3_ k_) ∨ w.heap.size ≤ k_) ∧ k_ ≠ gb217)) (qV (Kd.V_mono HL222_3.out (fun _ hk => ⟨⟨hk.1, hk.2.2⟩, hk.2.1⟩))) hg hat); replace HL230_3 := Aside0.mk (Kd.V_afterv (ok := (fun k_ => ((P0_ k_ ∨ P1_3_ k_) ∨ w.heap.size ≤ k_) ∧ k_ ≠ gb217)) (qV (Kd.V_mono HL230_3.out (fun _ hk => ⟨⟨hk.1, hk.2.2⟩, hk.2.1⟩))) hg hat); replace HB := Aside0.mk (hb); have HO233 := Aside0.mk (ho); clear HO_5 ho hb hg hat))
        repeat (go_quiet (first | ((with_reducible refine gate_builtin (b := .append) (xs := #[.tmp 30, .tmp 35]) rfl ?_); at_builtin; refine Kd.N_append k39 (w0 := w) w.heap.size rfl (.tmp 30) (.tmp 35) 22 39 (.agg #[(.string ⟨#[]⟩), (.bool false), (.int .i64 0), (.slice none 0 0)]) 56 rfl Tryz.underlying22 info39 rfl (by decide) (by omega) (.slice Ao5 x5_1.length co5) x5_1 (⟨(rd_T39 l0 x7_1).f0, (rd_T39 l0 x7_1).f1, (rd_T39 l0 x7_1).f2, (rd_T39 l0 x7_1).f3⟩ : S39) [.string ((rd_T39 l0 x7_1).f0), .bool ((rd_T39 l0 x7_1).f1), .int .i64 ((rd_T39 l0 x7_1).f2), .slice A222_3 ((rd_T39 l0 x7_1).f3).length c222_3] (fun k_ => ((P0_ k_ ∨ P1_3_ k_) ∨ w.heap.size ≤ k_) ∧ k_ ≠ gb217) (fun k_ => ((fun k_ => ((P0_ k_ ∨ P1_3_ k_) ∨ w.heap.size ≤ k_) ∧ k_ ≠ gb217)) k_ ∧ some k_ ≠ ((.slice Ao5 x5_1.length co5) : Value).ownBlock) rfl rfl ?aP (fun _ hk => hk) ?aF ?aO ?aB ?aS ?aL ?_; (case aP => exact (k39_mkF _ _ (⟨(rd_T39 l0 x7_1).f0, (rd_T39 l0 x7_1).f1, (rd_T39 l0 x7_1).f2, (rd_T39 l0 x7_1).f3⟩ : S39) (Kd.V_reads' (Kd.V_mono (ok' := (fun k_ => ((fun k_ => ((P0_ k_ ∨ P1_3_ k_) ∨ w.heap.size ≤ k_) ∧ k_ ≠ gb217)) k_ ∧ some k_ ≠ ((.slice Ao5 x5_1.length co5) : Value).ownBlock)) (HL230_3.out) (fun k_ hk => ⟨⟨hk.1, hk.2.2⟩, hk.2.1⟩))).2.1 (Kd.V_F (pw_V_mv (ok' := (fun k_ => ((fun k_ => ((P0_ k_ ∨ P1_3_ k_) ∨ w.heap.size ≤ k_) ∧ k_ ≠ gb217)) k_ ∧ some k_ ≠ ((.slice Ao5 x5_1.length co5) : Value).ownBlock)) (HL230_3.out) (fun k_ hk => ⟨⟨hk.1, hk.2.2⟩, hk.2.1⟩) (by intro h_; (with_reducible repeat (first | apply Kd.V_alloc | apply Kd.V_drewN | apply Kd.V_drew)); exact h_))))); (case aB => exact (qB1 HB.out GE217.out)); (case aF => exact (fun k_ hk => ⟨(.inr (Nat.le_trans (below_size (qB1 HB.out GE217.out)) hk)), Kd.freshB (qK BK217.out) k_ hk⟩)); (case aO => exact (qN HO_5.out)); (case aS => exact (below_size (qB1 HB.out GE217.out))); (case aL => have := LMc16.out; omega); intro v232 w18 ho hb hg hat; rw [← Ny231.out] at ho; replace HO_0 := Aside0.mk (Kd.V_afterv (ok := (fun k_ => ((P0_ k_ ∨ P1_3_ k_) ∨ w.heap.size ≤ k_) ∧ k_ ≠ gb217)) (qV (Kd.V_mono HO_0.out (fun _ hk => ⟨⟨hk.1, hk.2.2⟩, hk.2.1⟩))) hg hat); replace HO_218003 := Aside0.mk (Kd.V_afterv (ok := (fun k_ => ((P0_ k_ ∨ P1_3_ k_) ∨ w.heap.size ≤ k_) ∧ k_ ≠ gb217)) (qV (Kd.V_mono HO_218003.out (fun _ hk => ⟨⟨hk.1, hk.2.2⟩, hk.2.1⟩))) hg hat); replace BK217 := Aside0.mk (blk_grown (qK BK217.out) hg (Kd.N_away HO_5.out (fun _ hk => hk.2))); replace HL222_3 := Aside0.mk (Kd.V_afterv (ok := (fun k_ => ((P0_ k_ ∨ P1_3_ k_) ∨ w.heap.size ≤ k_) ∧ k_ ≠ gb217)) (qV (Kd.V_mono HL222_3.out (fun _ hk => ⟨⟨hk.1, hk.2.2⟩, hk.2.1⟩))) hg hat); replace HL230_3 := Aside0.mk (Kd.V_afterv (ok := (fun k_ => ((P0_ k_ ∨ P1_3_ k_) ∨ w.heap.size ≤ k_) ∧ k_ ≠ gb217)) (qV (Kd.V_mono HL230_3.out (fun _ hk => ⟨⟨hk.1, hk.2.2⟩, hk.2.1⟩))) hg hat); replace HB := Aside0.mk (hb); have HO233 := Aside0.mk (ho); clear HO_5 ho hb hg hat)); try go_wp2_with (first | ((with_reducible refine gate_builtin (b := .append) (xs := #[.tmp 30, .tmp 35]) rfl ?_); at_builtin; refine Kd.N_append k39 (w0 := w) w.heap.size rfl (.tmp 30) (.tmp 35) 22 39 (.agg #[(.string ⟨#[]⟩), (.bool false), (.int .i64 0), (.slice none 0 0)]) 56 rfl Tryz.underlying22 info39 rfl (by decide) (by omega) (.slice Ao5 x5_1.length co5) x5_1 (⟨(rd_T39 l0 x7_1).f0, (rd_T39 l0 x7_1).f1, (rd_T39 l0 x7_1).f2, (rd_T39 l0 x7_1).f3⟩ : S39) [.string ((rd_T39 l0 x7_1).f0), .bool ((rd_T39 l0 x7_1).f1), .int .i64 ((rd_T39 l0 x7_1).f2), .slice A222_3 ((rd_T39 l0 x7_1).f3).length c222_3] (fun k_ => ((P0_ k_ ∨ P1_3_ k_) ∨ w.heap.size ≤ k_) ∧ k_ ≠ gb217) (fun k_ => ((fun k_ => ((P0_ k_ ∨ P1_3_ k_) ∨ w.heap.size ≤ k_) ∧ k_ ≠ gb217)) k_ ∧ some k_ ≠ ((.slice Ao5 x5_1.length co5) : Value).ownBlock) rfl rfl ?aP (fun _ hk => hk) ?aF ?aO ?aB ?aS ?aL ?_; (case aP => exact (k39_mkF _ _ (⟨(rd_T39 l0 x7_1).f0, (rd_T39 l0 x7_1).f1, (rd_T39 l0 x7_1).f2, (rd_T39 l0 x7_1).f3⟩ : S39) (Kd.V_reads' (Kd.V_mono (ok' := (fun k_ => ((fun k_ => ((P0_ k_ ∨ P1_3_ k_) ∨ w.heap.size ≤ k_) ∧ k_ ≠ gb217)) k_ ∧ some k_ ≠ ((.slice Ao5 x5_1.length co5) : Value).ownBlock)) (HL230_3.out) (fun k_ hk => ⟨⟨hk.1, hk.2.2⟩, hk.2.1⟩))).2.1 (Kd.V_F (pw_V_mv (ok' := (fun k_ => ((fun k_ => ((P0_ k_ ∨ P1_3_ k_) ∨ w.heap.size ≤ k_) ∧ k_ ≠ gb217)) k_ ∧ some k_ ≠ ((.slice Ao5 x5_1.length co5) : Value).ownBlock)) (HL230_3.out) (fun k_ hk => ⟨⟨hk.1, hk.2.2⟩, hk.2.1⟩) (by intro h_; (with_reducible repeat (first | apply Kd.V_alloc | apply Kd.V_drewN | apply Kd.V_drew)); exact h_))))); (case aB => exact (qB1 HB.out GE217.out)); (case aF => exact (fun k_ hk => ⟨(.inr (Nat.le_trans (below_size (qB1 HB.out GE217.out)) hk)), Kd.freshB (qK BK217.out) k_ hk⟩)); (case aO => exact (qN HO_5.out)); (case aS => exact (below_size (qB1 HB.out GE217.out))); (case aL => have := LMc16.out; omega); intro v232 w18 ho hb hg hat; rw [← Ny231.out] at ho; replace HO_0 := Aside0.mk (Kd.V_afterv (ok := (fun k_ => ((P0_ k_ ∨ P1_3_ k_) ∨ w.heap.size ≤ k_) ∧ k_ ≠ gb217)) (qV (Kd.V_mono HO_0.out (fun _ hk => ⟨⟨hk.1, hk.2.2⟩, hk.2.1⟩))) hg hat); replace HO_218003 := Aside0.mk (Kd.V_afterv (ok := (fun k_ => ((P0_ k_ ∨ P1_3_ k_) ∨ w.heap.size ≤ k_) ∧ k_ ≠ gb217)) (qV (Kd.V_mono HO_218003.out (fun _ hk => ⟨⟨hk.1, hk.2.2⟩, hk.2.1⟩))) hg hat); replace BK217 := Aside0.mk (blk_grown (qK BK217.out) hg (Kd.N_away HO_5.out (fun _ hk => hk.2))); replace HL222_3 := Aside0.mk (Kd.V_afterv (ok := (fun k_ => ((P0_ k_ ∨ P1_3_ k_) ∨ w.heap.size ≤ k_) ∧ k_ ≠ gb217)) (qV (Kd.V_mono HL222_3.out (fun _ hk => ⟨⟨hk.1, hk.2.2⟩, hk.2.1⟩))) hg hat); replace HL230_3 := Aside0.mk (Kd.V_afterv (ok := (fun k_ => ((P0_ k_ ∨ P1_3_ k_) ∨ w.heap.size ≤ k_) ∧ k_ ≠ gb217)) (qV (Kd.V_mono HL230_3.out (fun _ hk => ⟨⟨hk.1, hk.2.2⟩, hk.2.1⟩))) hg hat); replace HB := Aside0.mk (hb); have HO233 := Aside0.mk (ho); clear HO_5 ho hb hg hat)))
        go_roundg k1
        case measure => have := HK1.out; omega
        case rel => exact ⟨(y231), (false), (wrap64 (x7_1 + 1)), qE1, qE1, H', ⟨by have := HK1.out; omega⟩, ⟨by (with_reducible repeat (first | apply Kd.V_alloc | apply Kd.V_drewN | apply Kd.V_drew)); exact Kd.V_mono HO_0.out (fun _ hk => ⟨hk.1.1, ⟨hk.2, hk.1.2⟩⟩)⟩, ⟨by (with_reducible repeat (first | apply Kd.N_alloc | apply Kd.N_drewN | apply Kd.N_drew)); exact HO233.out⟩, ⟨by (with_reducible repeat (first | apply Kd.V_alloc | apply Kd.V_drewN | apply Kd.V_drew)); exact Kd.V_mono HO_218003.out (fun _ hk => ⟨hk.1.1, ⟨hk.2, hk.1.2⟩⟩)⟩, ⟨by (with_reducible repeat (first | refine blk_drewN ?_ _ | refine blk_drew ?_ | refine blk_alloc ?_ _)); exact BK217.out⟩, ⟨by repeat (first | (with_reducible first | exact HB.out | apply below_alloc | apply pw_below_drewN | apply below_drew1 | refine below_set ?_ GE217.out) | exact HB.out)⟩⟩
       ·rw [if_neg c16] at H
        exact absurd H (by simp)
     ·rw [if_neg c9] at H
      exact absurd H (by simp)
   ·rw [if_neg c4] at H
    have c4b0 : decide (x7_1 < (l0.length : Int)) = false := decide_eq_false c4
    clear c4
    by_cases c19 : x6_1 = true
    ·subst c19
     have H1 : (some x5_1) = some r := by rw [if_pos rfl] at H; exact H
     clear H
     have H := H1
     clear H1
     obtain rfl := Option.some.inj H
     go_wp2
     repeat (go_quiet (fail); try go_wp2)
     go_ret
     exact ⟨_, qE, by (with_reducible repeat (first | apply Kd.N_alloc | apply Kd.N_drewN | apply Kd.N_drew)); exact Kd.N_mono HO_5.out (fun _ hk => hk.1), by repeat (first | (with_reducible first | exact HB.out | apply below_alloc | apply pw_below_drewN | apply below_drew1 | refine below_set ?_ GE217.out) | exact HB.out)⟩
    ·replace c19 := Bool.eq_false_iff.mpr c19
     subst c19
     have H1 : (if x5_1.length < 2513169434916 then (some (x5_1 ++ [(⟨a1_0, a1_1, a1_2, l1_3⟩ : S39)])) else (none)) = some r := by rw [if_neg (show ¬ (false = true) by decide)] at H; exact H
     clear H
     have H := H1
     clear H1
     by_cases c20 : x5_1.length < 2513169434916
     ·rw [if_pos c20] at H
      have LMc20 := Aside0.mk c20
      clear c20
      obtain ⟨y234, hy234⟩ : ∃ y_ : List (S39), y_ = (x5_1 ++ [(⟨a1_0, a1_1, a1_2, l1_3⟩ : S39)]) := ⟨_, rfl⟩
      replace H : (some y234) = some r := by first | (rw [hy234]; with_reducible exact H) | (have H2_ := (Option.bind_some _ _).symm.trans H; rw [hy234]; with_reducible exact H2_) | (have H2_ := (Option.bind_some _ _).symm.trans H; with_reducible exact H2_) | with_reducible exact H | (rw [hy234]; exact H) | exact H
      have Ny234 := Aside0.mk hy234
      clear hy234
      obtain rfl := Option.some.inj H
      have hcz21 := qC4 BK217.out
      go_wp2_with (first | ((with_reducible refine gate_builtin (b := .append) (xs := #[.tmp 39, .tmp 41]) rfl ?_); at_builtin; refine Kd.N_append k39 (w0 := w) w.heap.size rfl (.tmp 39) (.tmp 41) 22 39 (.agg #[(.string ⟨#[]⟩), (.bool false), (.int .i64 0), (.slice none 0 0)]) 56 rfl Tryz.underlying22 info39 rfl (by decide) (by omega) (.slice Ao5 x5_1.length co5) x5_1 (⟨a1_0, a1_1, a1_2, l1_3⟩ : S39) [.string a1_0, .bool a1_1, .int .i64 a1_2, .slice A1_3 l1_3.length c1_3] (fun k_ => ((P0_ k_ ∨ P1_3_ k_) ∨ w.heap.size ≤ k_) ∧ k_ ≠ gb217) (fun k_ => ((fun k_ => ((P0_ k_ ∨ P1_3_ k_) ∨ w.heap.size ≤ k_) ∧ k_ ≠ gb217)) k_ ∧ some k_ ≠ ((.slice Ao5 x5_1.length co5) : Value).ownBlock) rfl rfl ?aP (fun _ hk => hk) ?aF ?aO ?aB ?aS ?aL ?_; (case aP => exact (k39_mkF _ _ (⟨a1_0, a1_1, a1_2, l1_3⟩ : S39) (Kd.V_reads' (Kd.V_mono (ok' := (fun k_ => ((fun k_ => ((P0_ k_ ∨ P1_3_ k_) ∨ w.heap.size ≤ k_) ∧ k_ ≠ gb217)) k_ ∧ some k_ ≠ ((.slice Ao5 x5_1.length co5) : Value).ownBlock)) (HO_218003.out) (fun k_ hk => ⟨⟨hk.1, hk.2.2⟩, hk.2.1⟩))).2.1 (Kd.V_F (pw_V_mv (ok' := (fun k_ => ((fun k_ => ((P0_ k_ ∨ P1_3_ k_) ∨ w.heap.size ≤ k_) ∧ k_ ≠ gb217)) k_ ∧ some k_ ≠ ((.slice Ao5 x5_1.length co5) : Value).ownBlock)) (HO_218003.out) (fun k_ hk => ⟨⟨hk.1, hk.2.2⟩, hk.2.1⟩) (by intro h_; (with_reducible repeat (first | apply Kd.V_alloc | apply Kd.V_drewN | apply Kd.V_drew)); exact h_))))); (case aB => exact (qB1 HB.out GE217.out)); (case aF => exact (fun k_ hk => ⟨(.inr (Nat.le_trans (below_size (qB1 HB.out GE217.out)) hk)), Kd.freshB (qK BK217.out) k_ hk⟩)); (case aO => exact (qN HO_5.out)); (case aS => exact (below_size (qB1 HB.out GE217.out))); (case aL => have := LMc20.out; omega); intro v235 w22 ho hb hg hat; rw [← Ny234.out] at ho; replace HO_0 := Aside0.mk (Kd.V_afterv (ok := (fun k_ => ((P0_ k_ ∨ P1_3_ k_) ∨ w.heap.size ≤ k_) ∧ k_ ≠ gb217)) (qV (Kd.V_mono HO_0.out (fun _ hk => ⟨⟨hk.1, hk.2.2⟩, hk.2.1⟩))) hg hat); replace HO_218003 := Aside0.mk (Kd.V_afterv (ok := (fun k_ => ((P0_ k_ ∨ P1_3_ k_) ∨ w.heap.size ≤ k_) ∧ k_ ≠ gb217)) (qV (Kd.V_mono HO_218003.out (fun _ hk => ⟨⟨hk.1, hk.2.2⟩, hk.2.1⟩))) hg hat); replace BK217 := Aside0.mk (blk_grown (qK BK217.out) hg (Kd.N_away HO_5.out (fun _ hk => hk.2))); replace HB := Aside0.mk (hb); have HO236 := Aside0.mk (ho); clear HO_5 ho hb hg hat))
      repeat (go_quiet (first | ((with_reducible refine gate_builtin (b := .append) (xs := #[.tmp 39, .tmp 41]) rfl ?_); at_builtin; refine Kd.N_append k39 (w0 := w) w.heap.size rfl (.tmp 39) (.tmp 41) 22 39 (.agg #[(.string ⟨#[]⟩), (.bool false), (.int .i64 0), (.slice none 0 0)]) 56 rfl Tryz.underlying22 info39 rfl (by decide) (by omega) (.slice Ao5 x5_1.length co5) x5_1 (⟨a1_0, a1_1, a1_2, l1_3⟩ : S39) [.string a1_0, .bool a1_1, .int .i64 a1_2, .slice A1_3 l1_3.length c1_3] (fun k_ => ((P0_ k_ ∨ P1_3_ k_) ∨ w.heap.size ≤ k_) ∧ k_ ≠ gb217) (fun k_ => ((fun k_ => ((P0_ k_ ∨ P1_3_ k_) ∨ w.heap.size ≤ k_) ∧ k_ ≠ gb217)) k_ ∧ some k_ ≠ ((.slice Ao5 x5_1.length co5) : Value).ownBlock) rfl rfl ?aP (fun _ hk => hk) ?aF ?aO ?aB ?aS ?aL ?_; (case aP => exact (k39_mkF _ _ (⟨a1_0, a1_1, a1_2, l1_3⟩ : S39) (Kd.V_reads' (Kd.V_mono (ok' := (fun k_ => ((fun k_ => ((P0_ k_ ∨ P1_3_ k_) ∨ w.heap.size ≤ k_) ∧ k_ ≠ gb217)) k_ ∧ some k_ ≠ ((.slice Ao5 x5_1.length co5) : Value).ownBlock)) (HO_218003.out) (fun k_ hk => ⟨⟨hk.1, hk.2.2⟩, hk.2.1⟩))).2.1 (Kd.V_F (pw_V_mv (ok' := (fun k_ => ((fun k_ => ((P0_ k_ ∨ P1_3_ k_) ∨ w.heap.size ≤ k_) ∧ k_ ≠ gb217)) k_ ∧ some k_ ≠ ((.slice Ao5 x5_1.length co5) : Value).ownBlock)) (HO_218003.out) (fun k_ hk => ⟨⟨hk.1, hk.2.2⟩, hk.2.1⟩) (by intro h_; (with_reducible repeat (first | apply Kd.V_alloc | apply Kd.V_drewN | apply Kd.V_drew)); exact h_))))); (case aB => exact (qB1 HB.out GE217.out)); (case aF => exact (fun k_ hk => ⟨(.inr (Nat.le_trans (below_size (qB1 HB.out GE217.out)) hk)), Kd.freshB (qK BK217.out) k_ hk⟩)); (case aO => exact (qN HO_5.out)); (case aS => exact (below_size (qB1 HB.out GE217.out))); (case aL => have := LMc20.out; omega); intro v235 w22 ho hb hg hat; rw [← Ny234.out] at ho; replace HO_0 := Aside0.mk (Kd.V_afterv (ok := (fun k_ => ((P0_ k_ ∨ P1_3_ k_) ∨ w.heap.size ≤ k_) ∧ k_ ≠ gb217)) (qV (Kd.V_mono HO_0.out (fun _ hk => ⟨⟨hk.1, hk.2.2⟩, hk.2.1⟩))) hg hat); replace HO_218003 := Aside0.mk (Kd.V_afterv (ok := (fun k_ => ((P0_ k_ ∨ P1_3_ k_) ∨ w.heap.size ≤ k_) ∧ k_ ≠ gb217)) (qV (Kd.V_mono HO_218003.out (fun _ hk => ⟨⟨hk.1, hk.2.2⟩, hk.2.1⟩))) hg hat); replace BK217 := Aside0.mk (blk_grown (qK BK217.out) hg (Kd.N_away HO_5.out (fun _ hk => hk.2))); replace HB := Aside0.mk (hb); have HO236 := Aside0.mk (ho); clear HO_5 ho hb hg hat)); try go_wp2_with (first | ((with_reducible refine gate_builtin (b := .append) (xs := #[.tmp 39, .tmp 41]) rfl ?_); at_builtin; refine Kd.N_append k39 (w0 := w) w.heap.size rfl (.tmp 39) (.tmp 41) 22 39 (.agg #[(.string ⟨#[]⟩), (.bool false), (.int .i64 0), (.slice none 0 0)]) 56 rfl Tryz.underlying22 info39 rfl (by decide) (by omega) (.slice Ao5 x5_1.length co5) x5_1 (⟨a1_0, a1_1, a1_2, l1_3⟩ : S39) [.string a1_0, .bool a1_1, .int .i64 a1_2, .slice A1_3 l1_3.length c1_3] (fun k_ => ((P0_ k_ ∨ P1_3_ k_) ∨ w.heap.size ≤ k_) ∧ k_ ≠ gb217) (fun k_ => ((fun k_ => ((P0_ k_ ∨ P1_3_ k_) ∨ w.heap.size ≤ k_) ∧ k_ ≠ gb217)) k_ ∧ some k_ ≠ ((.slice Ao5 x5_1.length co5) : Value).ownBlock) rfl rfl ?aP (fun _ hk => hk) ?aF ?aO ?aB ?aS ?aL ?_; (case aP => exact (k39_mkF _ _ (⟨a1_0, a1_1, a1_2, l1_3⟩ : S39) (Kd.V_reads' (Kd.V_mono (ok' := (fun k_ => ((fun k_ => ((P0_ k_ ∨ P1_3_ k_) ∨ w.heap.size ≤ k_) ∧ k_ ≠ gb217)) k_ ∧ some k_ ≠ ((.slice Ao5 x5_1.length co5) : Value).ownBlock)) (HO_218003.out) (fun k_ hk => ⟨⟨hk.1, hk.2.2⟩, hk.2.1⟩))).2.1 (Kd.V_F (pw_V_mv (ok' := (fun k_ => ((fun k_ => ((P0_ k_ ∨ P1_3_ k_) ∨ w.heap.size ≤ k_) ∧ k_ ≠ gb217)) k_ ∧ some k_ ≠ ((.slice Ao5 x5_1.length co5) : Value).ownBlock)) (HO_218003.out) (fun k_ hk => ⟨⟨hk.1, hk.2.2⟩, hk.2.1⟩) (by intro h_; (with_reducible repeat (first | apply Kd.V_alloc | apply Kd.V_drewN | apply Kd.V_drew)); exact h_))))); (case aB => exact (qB1 HB.out GE217.out)); (case aF => exact (fun k_ hk => ⟨(.inr (Nat.le_trans (below_size (qB1 HB.out GE217.out)) hk)), Kd.freshB (qK BK217.out) k_ hk⟩)); (case aO => exact (qN HO_5.out)); (case aS => exact (below_size (qB1 HB.out GE217.out))); (case aL => have := LMc20.out; omega); intro v235 w22 ho hb hg hat; rw [← Ny234.out] at ho; replace HO_0 := Aside0.mk (Kd.V_afterv (ok := (fun k_ => ((P0_ k_ ∨ P1_3_ k_) ∨ w.heap.size ≤ k_) ∧ k_ ≠ gb217)) (qV (Kd.V_mono HO_0.out (fun _ hk => ⟨⟨hk.1, hk.2.2⟩, hk.2.1⟩))) hg hat); replace HO_218003 := Aside0.mk (Kd.V_afterv (ok := (fun k_ => ((P0_ k_ ∨ P1_3_ k_) ∨ w.heap.size ≤ k_) ∧ k_ ≠ gb217)) (qV (Kd.V_mono HO_218003.out (fun _ hk => ⟨⟨hk.1, hk.2.2⟩, hk.2.1⟩))) hg hat); replace BK217 := Aside0.mk (blk_grown (qK BK217.out) hg (Kd.N_away HO_5.out (fun _ hk => hk.2))); replace HB := Aside0.mk (hb); have HO236 := Aside0.mk (ho); clear HO_5 ho hb hg hat)))
      go_ret
      exact ⟨_, qE, by (with_reducible repeat (first | apply Kd.N_alloc | apply Kd.N_drewN | apply Kd.N_drew)); exact Kd.N_mono HO236.out (fun _ hk => hk.1), by repeat (first | (with_reducible first | exact HB.out | apply below_alloc | apply pw_below_drewN | apply below_drew1 | refine below_set ?_ GE217.out) | exact HB.out)⟩
     ·rw [if_neg c20] at H
      exact absurd H (by simp)
def chicaneref14_add.j0 : Nat → List (S39) → Bool → Int → Int → ByteArray → ByteArray → Bool → ByteArray → Int → Bool → Int → Int → Int → Option ((List (S39)) × Int)
 | 0, _, _, _, _, _, _, _, _, _, _, _, _, _ => none
 | k + 1, x0, x24, x238000, x238001, x238002, x238003, x238004, x238005, x238006, x238007, x238008, x238009, x238010 => if x24 = true then (some (x0, 144)) else (if (x0.length : Int) ≥ 8 then (some (x0, 143)) else ((chicaneref14_put.f k x0 x238002 true x238001 ([] : List (S24))).bind fun t240 => (some (t240, 0))))
def chicaneref14_add.f (k : Nat) (l0 : List (S39)) (a1_0 : Int) (a1_1 : Int) (a1_2 : ByteArray) (a1_3 : ByteArray) (a1_4 : Bool) (a1_5 : ByteArray) (a1_6 : Int) (a1_7 : Bool) (a1_8 : Int) (a1_9 : Int) (a1_10 : Int) : Option ((List (S39)) × Int) := (chicaneref09_Name.f a1_2).bind fun t238 => (if t238 = true then ((chicaneref14_Find.f k l0 a1_2).bind fun t239 => (if t239 ≥ 0 then (some (l0, 141)) else (if a1_1 < 1 then (chicaneref14_add.j0 k l0 true a1_0 a1_1 a1_2 a1_3 a1_4 a1_5 a1_6 a1_7 a1_8 a1_9 a1_10) else (chicaneref14_add.j0 k l0 (decide (a1_1 > 16)) a1_0 a1_1 a1_2 a1_3 a1_4 a1_5 a1_6 a1_7 a1_8 a1_9 a1_10)))) else (some (l0, 140)))
set_option maxHeartbeats 8000000 in
set_option maxRecDepth 100000 in
theorem chicaneref14_add.calls (k : Nat) (P0_ : Nat → Prop) (A0 : Option Addr) (c0 : Nat) (l0 : List (S39)) (a1_0 : Int) (a1_1 : Int) (a1_2 : ByteArray) (a1_3 : ByteArray) (a1_4 : Bool) (a1_5 : ByteArray) (a1_6 : Int) (a1_7 : Bool) (a1_8 : Int) (a1_9 : Int) (a1_10 : Int) (r1 : List (S39)) (r2 : Int) (w : World) (hs0 : Kd.V k39 39 w w.heap.size (fun k_ => P0_ k_) (.slice A0 l0.length c0) l0) (h : chicaneref14_add.f k l0 a1_0 a1_1 a1_2 a1_3 a1_4 a1_5 a1_6 a1_7 a1_8 a1_9 a1_10 = some (r1, r2)) :
  Calls Tryz.prog 25 #[.slice A0 l0.length c0, .agg #[.int .i64 a1_0, .int .i64 a1_1, .string a1_2, .string a1_3, .bool a1_4, .string a1_5, .int .i64 a1_6, .bool a1_7, .int .i64 a1_8, .int .i64 a1_9, .int .i64 a1_10]] w fun e w' => ∃ v0_ : Value, e = .returned (.tuple #[v0_, .int .i64 r2]) ∧ Kd.V k39 39 w' w.heap.size (fun k_ => (P0_ k_ ∨ w.heap.size ≤ k_)) v0_ r1 ∧ Below w.heap.size w w' := by
 have hu26 := Tryz.underlying26
 have hu39 := Tryz.underlying39
 have HO0 := Aside0.mk (show Kd.V k39 39 w w.heap.size (fun k_ => (P0_ k_ ∨ w.heap.size ≤ k_)) (.slice A0 l0.length c0) l0 from Kd.V_mono hs0 (fun k_ hk => .inl hk))
 have HB := Aside0.mk (Below.refl w.heap.size w)
 have H : ((chicaneref09_Name.f a1_2).bind fun t238 => (if t238 = true then ((chicaneref14_Find.f k l0 a1_2).bind fun t239 => (if t239 ≥ 0 then (some (l0, 141)) else (if a1_1 < 1 then (chicaneref14_add.j0 k l0 true a1_0 a1_1 a1_2 a1_3 a1_4 a1_5 a1_6 a1_7 a1_8 a1_9 a1_10) else (chicaneref14_add.j0 k l0 (decide (a1_1 > 16)) a1_0 a1_1 a1_2 a1_3 a1_4 a1_5 a1_6 a1_7 a1_8 a1_9 a1_10)))) else (some (l0, 140)))) = some (r1, r2) := h
 clear h
 replace H := Option.bind_eq_some_iff.mp H
 obtain ⟨t238, A30, H⟩ := H
 replace H : (if t238 = true then ((chicaneref14_Find.f k l0 a1_2).bind fun t239 => (if t239 ≥ 0 then (some (l0, 141)) else (if a1_1 < 1 then (chicaneref14_add.j0 k l0 true a1_0 a1_1 a1_2 a1_3 a1_4 a1_5 a1_6 a1_7 a1_8 a1_9 a1_10) else (chicaneref14_add.j0 k l0 (decide (a1_1 > 16)) a1_0 a1_1 a1_2 a1_3 a1_4 a1_5 a1_6 a1_7 a1_8 a1_9 a1_10)))) else (some (l0, 140))) = some (r1, r2) := H
 have A3 := Aside0.mk A30
 clear A30
 by_cases c4 : t238 = true
 ·subst c4
  have H1 : ((chicaneref14_Find.f k l0 a1_2).bind fun t239 => (if t239 ≥ 0 then (some (l0, 141)) else (if a1_1 < 1 then (chicaneref14_add.j0 k l0 true a1_0 a1_1 a1_2 a1_3 a1_4 a1_5 a1_6 a1_7 a1_8 a1_9 a1_10) else (chicaneref14_add.j0 k l0 (decide (a1_1 > 16)) a1_0 a1_1 a1_2 a1_3 a1_4 a1_5 a1_6 a1_7 a1_8 a1_9 a1_10)))) = some (r1, r2) := by rw [if_pos rfl] at H; exact H
  clear H
  have H := H1
  clear H1
  replace H := Option.bind_eq_some_iff.mp H
  obtain ⟨t239, A50, H⟩ := H
  replace H : (if t239 ≥ 0 then (some (l0, 141)) else (if a1_1 < 1 then (chicaneref14_add.j0 k l0 true a1_0 a1_1 a1_2 a1_3 a1_4 a1_5 a1_6 a1_7 a1_8 a1_9 a1_10) else (chicaneref14_add.j0 k l0 (decide (a1_1 > 16)) a1_0 a1_1 a1_2 a1_3 a1_4 a1_5 a1_6 a1_7 a1_8 a1_9 a1_10))) = some (r1, r2) := H
  have A5 := Aside0.mk A50
  clear A50
  by_cases c6 : t239 ≥ 0
  ·rw [if_pos c6] at H
   have c6b0 : decide (0 ≤ t239) = true := decide_eq_true c6
   clear c6
   simp only [Option.some.injEq, Prod.mk.injEq] at H
   obtain ⟨rfl, rfl⟩ := H
   go_enter Tryz.func25, Tryz.ntmps25
   go_wp2_with (first | ((with_reducible refine gate_dst (N := 3) rfl ?_); refine box_event ?hg (N := 3) ?hd (cs := #[.int .i64 a1_0, .int .i64 a1_1, .string a1_2, .string a1_3, .bool a1_4, .string a1_5, .int .i64 a1_6, .bool a1_7, .int .i64 a1_8, .int .i64 a1_9, .int .i64 a1_10]) (t := 26) ?hr ?_; (case hd => rfl); (case hg => rfl); (case hr => first | (go_simp; done) | (go_simp; rfl)); intro gb237 hg w7 hbox hb; have n0_ := Aside0.mk (Kd.V_below (Kd.V_elderB (qV HO0.out) gb237 (Nat.le_of_eq hg.symm)) hb); have n1_ := Aside0.mk (below_step (qB HB.out) hb); have n2_ := Aside0.mk (hbox); have n3_ := Aside0.mk ((qs hg (below_size (qB HB.out)) : w.heap.size ≤ gb237)); have n4_ := Aside0.mk ((qs hg (below_size (qB HB.out)) : w.heap.size ≤ gb237)); clear HO0 HB; have HO0 := n0_; have HB := n1_; have BK237 := n2_; have GW237 := n3_; have GE237 := n4_; clear n0_ n1_ n2_ n3_ n4_ hb hbox hg; have hcz8 := qC11 BK237.out) | ((with_reducible refine gate_callee (f := 54) rfl ?_); refine goesL_ (some 8) rfl rfl Tryz.func54 qr rfl #[.string a1_2] rfl qG ?_; (with_reducible refine (chicaneref09_Name.calls a1_2 true _ A3.out).mono ?_); rintro e w9 ⟨rfl, hb⟩; refine ⟨_, rfl, ?_⟩; replace HO0 := Aside0.mk (Kd.V_below (qV HO0.out) hb); replace BK237 := Aside0.mk (blk_below (qK BK237.out) hb); replace HB := Aside0.mk (below_step (qB1 HB.out GE237.out) hb); (try clear hb); (try clear hb2); (try clear hk); (try clear hi); have hcz10 := qC11 BK237.out) | ((with_reducible refine gate_callee (f := 14) rfl ?_); refine goesL_ (some 14) rfl rfl Tryz.func14 qr rfl #[.slice A0 l0.length c0, .string a1_2] rfl qG ?_; (with_reducible refine (chicaneref14_Find.calls k _ _ l0 a1_2 t239 _ ?side1 ?side2 A5.out).mono ?_); (case side1 => repeat (first | exact (Kd.V_reads' HO0.out).2.2 | (with_reducible refine Kd.C_alloc ?_ _) | (with_reducible refine Kd.C_drewN ?_ _) | (with_reducible refine Kd.C_drew ?_))); (case side2 => exact (Kd.V_reads' HO0.out).2.1); rintro e w' ⟨rfl, ⟨nd, rfl⟩⟩; refine ⟨_, rfl, ?_⟩))
   go_ret2
   exact ⟨_, qE, by (with_reducible repeat (first | apply Kd.V_alloc | apply Kd.V_drewN | apply Kd.V_drew)); exact Kd.V_mono HO0.out (fun _ hk => hk.1), by repeat (first | (with_reducible first | exact HB.out | apply below_alloc | apply pw_below_drewN | apply below_drew1 | refine below_set ?_ GE237.out) | exact HB.out)⟩
  ·rw [if_neg c6] at H
   have c6b0 : decide (0 ≤ t239) = false := decide_eq_false c6
   clear c6
   have HC11 := Aside0.mk H
   clear H
   go_enter Tryz.func25, Tryz.ntmps25
   go_upto_region 5 with (first | ((with_reducible refine gate_dst (N := 3) rfl ?_); refine box_event ?hg (N := 3) ?hd (cs := #[.int .i64 a1_0, .int .i64 a1_1, .string a1_2, .string a1_3, .bool a1_4, .string a1_5, .int .i64 a1_6, .bool a1_7, .int .i64 a1_8, .int .i64 a1_9, .int .i64 a1_10]) (t := 26) ?hr ?_; (case hd => rfl); (case hg => rfl); (case hr => first | (go_simp; done) | (go_simp; rfl)); intro gb237 hg w12 hbox hb; have n0_ := Aside0.mk (Kd.V_below (Kd.V_elderB (qV HO0.out) gb237 (Nat.le_of_eq hg.symm)) hb); have n1_ := Aside0.mk (below_step (qB HB.out) hb); have n2_ := Aside0.mk (hbox); have n3_ := Aside0.mk ((qs hg (below_size (qB HB.out)) : w.heap.size ≤ gb237)); have n4_ := Aside0.mk ((qs hg (below_size (qB HB.out)) : w.heap.size ≤ gb237)); clear HO0 HB; have HO0 := n0_; have HB := n1_; have BK237 := n2_; have GW237 := n3_; have GE237 := n4_; clear n0_ n1_ n2_ n3_ n4_ hb hbox hg; have hcz13 := qC11 BK237.out) | ((with_reducible refine gate_callee (f := 54) rfl ?_); refine goesL_ (some 8) rfl rfl Tryz.func54 qr rfl #[.string a1_2] rfl qG ?_; (with_reducible refine (chicaneref09_Name.calls a1_2 true _ A3.out).mono ?_); rintro e w14 ⟨rfl, hb⟩; refine ⟨_, rfl, ?_⟩; replace HO0 := Aside0.mk (Kd.V_below (qV HO0.out) hb); replace BK237 := Aside0.mk (blk_below (qK BK237.out) hb); replace HB := Aside0.mk (below_step (qB1 HB.out GE237.out) hb); (try clear hb); (try clear hb2); (try clear hk); (try clear hi); have hcz15 := qC11 BK237.out) | ((with_reducible refine gate_callee (f := 14) rfl ?_); refine goesL_ (some 14) rfl rfl Tryz.func14 qr rfl #[.slice A0 l0.length c0, .string a1_2] rfl qG ?_; (with_reducible refine (chicaneref14_Find.calls k _ _ l0 a1_2 t239 _ ?side1 ?side2 A5.out).mono ?_); (case side1 => repeat (first | exact (Kd.V_reads' HO0.out).2.2 | (with_reducible refine Kd.C_alloc ?_ _) | (with_reducible refine Kd.C_drewN ?_ _) | (with_reducible refine Kd.C_drew ?_))); (case side2 => exact (Kd.V_reads' HO0.out).2.1); rintro e w' ⟨rfl, ⟨nd, rfl⟩⟩; refine ⟨_, rfl, ?_⟩))
   (try simp only [Act.put, List.setIfInBounds_toArray, List.set_cons_zero, List.set_cons_succ])
   go_cut [24] (fun v24 wc => ∃ (kq : Nat) (x24_10 : Bool), v24 = .bool x24_10 ∧ Aside0 (chicaneref14_add.j0 kq l0 x24_10 a1_0 a1_1 a1_2 a1_3 a1_4 a1_5 a1_6 a1_7 a1_8 a1_9 a1_10 = some (r1, r2)) ∧ Aside0 (kq ≤ k) ∧ Aside0 (Kd.V k39 39 wc w.heap.size (fun k_ => (P0_ k_ ∨ w.heap.size ≤ k_) ∧ k_ ≠ gb237) (.slice A0 l0.length c0) l0) ∧ Aside0 (wc.heap[gb237]? = some (.cells #[.int .i64 a1_0, .int .i64 a1_1, .string a1_2, .string a1_3, .bool a1_4, .string a1_5, .int .i64 a1_6, .bool a1_7, .int .i64 a1_8, .int .i64 a1_9, .int .i64 a1_10] 26 (0, 0))) ∧ Aside0 (Below w.heap.size w wc))
   case first =>
    have H := HC11.out
    clear HC11
    by_cases c16 : a1_1 < 1
    ·rw [if_pos c16] at H
     have c16b0 : decide (a1_1 < 1) = true := decide_eq_true c16
     clear c16
     (first | rw [c16b0] | (simp only [i64_w, i32_w]; rw [c16b0]) | skip)
     have H' := Aside0.mk H
     clear H
     have hcz17 := qC11 BK237.out
     go_wp2
     go_meet
     case rel => exact ⟨_, (true), qE1, H', ⟨by first | omega | exact Nat.le_refl _⟩, ⟨by (with_reducible repeat (first | apply Kd.V_alloc | apply Kd.V_drewN | apply Kd.V_drew)); exact HO0.out⟩, ⟨by (with_reducible repeat (first | refine blk_drewN ?_ _ | refine blk_drew ?_ | refine blk_alloc ?_ _)); exact BK237.out⟩, ⟨by repeat (first | (with_reducible first | exact HB.out | apply below_alloc | apply pw_below_drewN | apply below_drew1 | refine below_set ?_ GE237.out) | exact HB.out)⟩⟩
    ·rw [if_neg c16] at H
     have c16b0 : decide (a1_1 < 1) = false := decide_eq_false c16
     clear c16
     (first | rw [c16b0] | (simp only [i64_w, i32_w]; rw [c16b0]) | skip)
     have H' := Aside0.mk H
     clear H
     have hcz18 := qC11 BK237.out
     go_wp2
     go_meet
     case rel => exact ⟨_, (decide (a1_1 > 16)), qE1, H', ⟨by first | omega | exact Nat.le_refl _⟩, ⟨by (with_reducible repeat (first | apply Kd.V_alloc | apply Kd.V_drewN | apply Kd.V_drew)); exact HO0.out⟩, ⟨by (with_reducible repeat (first | refine blk_drewN ?_ _ | refine blk_drew ?_ | refine blk_alloc ?_ _)); exact BK237.out⟩, ⟨by repeat (first | (with_reducible first | exact HB.out | apply below_alloc | apply pw_below_drewN | apply below_drew1 | refine below_set ?_ GE237.out) | exact HB.out)⟩⟩
   case rest =>
    clear HC11
    try clear c1
    try clear c2
    try clear p2
    try clear c4
    try clear c5
    try clear c6
    try clear c6b0
    try clear c14
    try clear c16
    try clear c16b0
    try clear hcz10
    try clear hcz13
    try clear hcz15
    try clear hcz17
    try clear hcz18
    try clear hcz8
    obtain ⟨kq, x24_10, rfl, HA, HJ10, HO_0, BK237, HB⟩ := hcut
    cases kq with
    | zero => exact absurd HA.out (by simp [chicaneref14_add.j0])
    | succ kj10 =>
     have H := HA.out
     clear HA
     simp only [chicaneref14_add.j0] at H
     by_cases c19 : x24_10 = true
     ·subst c19
      have H1 : (some (l0, 144)) = some (r1, r2) := by rw [if_pos rfl] at H; exact H
      clear H
      have H := H1
      clear H1
      simp only [Option.some.injEq, Prod.mk.injEq] at H
      obtain ⟨rfl, rfl⟩ := H
      go_wp2
      go_ret2
      exact ⟨_, qE, by (with_reducible repeat (first | apply Kd.V_alloc | apply Kd.V_drewN | apply Kd.V_drew)); exact Kd.V_mono HO_0.out (fun _ hk => hk.1), by repeat (first | (with_reducible first | exact HB.out | apply below_alloc | apply pw_below_drewN | apply below_drew1 | refine below_set ?_ GE237.out) | exact HB.out)⟩
     ·replace c19 := Bool.eq_false_iff.mpr c19
      subst c19
      have H1 : (if (l0.length : Int) ≥ 8 then (some (l0, 143)) else ((chicaneref14_put.f kj10 l0 a1_2 true a1_1 ([] : List (S24))).bind fun t240 => (some (t240, 0)))) = some (r1, r2) := by rw [if_neg (show ¬ (false = true) by decide)] at H; exact H
      clear H
      have H := H1
      clear H1
      by_cases c20 : (l0.length : Int) ≥ 8
      ·rw [if_pos c20] at H
       have c20b0 : decide (8 ≤ (l0.length : Int)) = true := decide_eq_true c20
       have c20b1 : decide (8 ≤ l0.length) = true := decide_eq_true (by omega)
       clear c20
       simp only [Option.some.injEq, Prod.mk.injEq] at H
       obtain ⟨rfl, rfl⟩ := H
       go_wp2
       go_ret2
       exact ⟨_, qE, by (with_reducible repeat (first | apply Kd.V_alloc | apply Kd.V_drewN | apply Kd.V_drew)); exact Kd.V_mono HO_0.out (fun _ hk => hk.1), by repeat (first | (with_reducible first | exact HB.out | apply below_alloc | apply pw_below_drewN | apply below_drew1 | refine below_set ?_ GE237.out) | exact HB.out)⟩
      ·rw [if_neg c20] at H
       have c20b0 : decide (8 ≤ (l0.length : Int)) = false := decide_eq_false c20
       have c20b1 : decide (8 ≤ l0.length) = false := decide_eq_false (by omega)
       clear c20
       replace H := Option.bind_eq_some_iff.mp H
       obtain ⟨t240, A210, H⟩ := H
       replace H : (some (t240, 0)) = some (r1, r2) := H
       have A21 := Aside0.mk A210
       clear A210
       simp only [Option.some.injEq, Prod.mk.injEq] at H
       obtain ⟨rfl, rfl⟩ := H
       have hcz22 := qC11 BK237.out
       go_wp2_with (first | ((with_reducible refine gate_callee (f := 55) rfl ?_); refine goesL_ (some 36) rfl rfl Tryz.func55 qr rfl #[.slice A0 l0.length c0, .agg #[.string a1_2, .bool true, .int .i64 a1_1, .slice none 0 0]] rfl qG ?_; (refine (chicaneref14_put.calls kj10 (fun k_ => ((P0_ k_ ∨ w.heap.size ≤ k_) ∧ k_ ≠ gb237)) _ _ l0 a1_2 true a1_1 (fun k_ => False) _ _ ([] : List (S24)) t240 _ ?side1 ?side2 A21.out).mono ?_); (case side1 => exact HO_0.out); (case side2 => exact Kd.V_nil _ _ _ _ _); rintro e w23 ⟨v241, rfl, ho0, hb⟩; refine ⟨_, rfl, ?_⟩; replace HO_0 := Aside0.mk (Kd.V_elder' (qV HO_0.out) (Kd.N_base ho0) hb); have HO242 := Aside0.mk (Kd.N_lower (Kd.N_mono (ok' := fun k_ => (P0_ k_ ∨ w.heap.size ≤ k_) ∧ k_ ≠ gb237) ho0 (fun k_ hk_ => ⟨Or.elim hk_ (fun hs_ => Or.elim hs_ (fun hs_ => hs_.1) (fun hs_ => (hs_).elim)) (fun hn_ => (.inr (Nat.le_trans (below_size (qB1 HB.out GE237.out)) hn_))), Or.elim hk_ (fun hs_ => Or.elim hs_ (fun hs_ => hs_.2) (fun hs_ => (hs_).elim)) (fun hn_ => (Kd.freshB (qK BK237.out) k_ hn_))⟩)) (below_size (qB1 HB.out GE237.out))); replace BK237 := Aside0.mk (blk_below (qK BK237.out) hb); replace HB := Aside0.mk (below_step (qB1 HB.out GE237.out) hb); (try clear hb); (try clear hb2); (try clear hk); (try clear hi); (try clear ho0)))
       go_ret2
       exact ⟨_, qE, Kd.N_V (qN (Kd.N_mono HO242.out (fun _ hk => hk.1))), by repeat (first | (with_reducible first | exact HB.out | apply below_alloc | apply pw_below_drewN | apply below_drew1 | refine below_set ?_ GE237.out) | exact HB.out)⟩
 ·replace c4 := Bool.eq_false_iff.mpr c4
  subst c4
  have H1 : (some (l0, 140)) = some (r1, r2) := by rw [if_neg (show ¬ (false = true) by decide)] at H; exact H
  clear H
  have H := H1
  clear H1
  simp only [Option.some.injEq, Prod.mk.injEq] at H
  obtain ⟨rfl, rfl⟩ := H
  go_enter Tryz.func25, Tryz.ntmps25
  go_wp2_with (first | ((with_reducible refine gate_dst (N := 3) rfl ?_); refine box_event ?hg (N := 3) ?hd (cs := #[.int .i64 a1_0, .int .i64 a1_1, .string a1_2, .string a1_3, .bool a1_4, .string a1_5, .int .i64 a1_6, .bool a1_7, .int .i64 a1_8, .int .i64 a1_9, .int .i64 a1_10]) (t := 26) ?hr ?_; (case hd => rfl); (case hg => rfl); (case hr => first | (go_simp; done) | (go_simp; rfl)); intro gb237 hg w24 hbox hb; have n0_ := Aside0.mk (Kd.V_below (Kd.V_elderB (qV HO0.out) gb237 (Nat.le_of_eq hg.symm)) hb); have n1_ := Aside0.mk (below_step (qB HB.out) hb); have n2_ := Aside0.mk (hbox); have n3_ := Aside0.mk ((qs hg (below_size (qB HB.out)) : w.heap.size ≤ gb237)); have n4_ := Aside0.mk ((qs hg (below_size (qB HB.out)) : w.heap.size ≤ gb237)); clear HO0 HB; have HO0 := n0_; have HB := n1_; have BK237 := n2_; have GW237 := n3_; have GE237 := n4_; clear n0_ n1_ n2_ n3_ n4_ hb hbox hg; have hcz25 := qC11 BK237.out) | ((with_reducible refine gate_callee (f := 54) rfl ?_); refine goesL_ (some 8) rfl rfl Tryz.func54 qr rfl #[.string a1_2] rfl qG ?_; (with_reducible refine (chicaneref09_Name.calls a1_2 false _ A3.out).mono ?_); rintro e w26 ⟨rfl, hb⟩; refine ⟨_, rfl, ?_⟩; replace HO0 := Aside0.mk (Kd.V_below (qV HO0.out) hb); replace BK237 := Aside0.mk (blk_below (qK BK237.out) hb); replace HB := Aside0.mk (below_step (qB1 HB.out GE237.out) hb); (try clear hb); (try clear hb2); (try clear hk); (try clear hi)))
  go_ret2
  exact ⟨_, qE, by (with_reducible repeat (first | apply Kd.V_alloc | apply Kd.V_drewN | apply Kd.V_drew)); exact Kd.V_mono HO0.out (fun _ hk => hk.1), by repeat (first | (with_reducible first | exact HB.out | apply below_alloc | apply pw_below_drewN | apply below_drew1 | refine below_set ?_ GE237.out) | exact HB.out)⟩
end Go.Proofs.YtlglbpjccpdloaaGreat.PNamA
