/- Gathered by a program of this session (shake.py): what the claim's theorem needs. -/
import Derived.Test.YtlglbpjccpdloaaSC1
import Derived.Test.YtlglbpjccpdloaaSC3
import Derived.Test.YtlglbpjccpdloaaSC4
import Derived.Test.YtlglbpjccpdloaaSC5
import Derived.Test.YtlglbpjccpdloaaSC6
import Derived.Test.YtlglbpjccpdloaaSC7
import Derived.WalkKit
import Derived.ProofKit
import Derived.OpenShut
import Derived.ShutString
import Derived.ChangeOld
import Derived.Below
import Derived.SizedLaws
import Derived.Test.YtlglbpjccpdloaaRows
set_option linter.unusedVariables false
set_option linter.unusedSimpArgs false
namespace Go.Proofs.Ytlglbpjccpdloaa.Ext
end Go.Proofs.Ytlglbpjccpdloaa.Ext
namespace Go.Proofs.Ytlglbpjccpdloaa.NmLaw
end Go.Proofs.Ytlglbpjccpdloaa.NmLaw
namespace Go.Proofs.Ytlglbpjccpdloaa.PNamA
end Go.Proofs.Ytlglbpjccpdloaa.PNamA
namespace Go.Proofs.Ytlglbpjccpdloaa.Tox
end Go.Proofs.Ytlglbpjccpdloaa.Tox
namespace Go.Proofs.Ytlglbpjccpdloaa.ToxZ
end Go.Proofs.Ytlglbpjccpdloaa.ToxZ
namespace Go.Proofs.YtlglbpjccpdloaaW
end Go.Proofs.YtlglbpjccpdloaaW
namespace Go.Proofs.YtlglbpjccpdloaaW.PrintLast
end Go.Proofs.YtlglbpjccpdloaaW.PrintLast
namespace Go.Proofs.YtlglbpjccpdloaaW.PrintMore
end Go.Proofs.YtlglbpjccpdloaaW.PrintMore
namespace Go.Proofs.YtlglbpjccpdloaaW.PrintWords
end Go.Proofs.YtlglbpjccpdloaaW.PrintWords
set_option linter.unusedVariables false
set_option linter.unusedSimpArgs false
namespace Go.Proofs.Ytlglbpjccpdloaa.Ext
open Go.RowKit Go.Proofs.Ytlglbpjccpdloaa.PNamA Go.Proofs.Ytlglbpjccpdloaa.Tox Go.Proofs.Ytlglbpjccpdloaa.ToxZ Go.Proofs.YtlglbpjccpdloaaW.PrintWords Go.Proofs.YtlglbpjccpdloaaW.PrintLast
def fewB (l : List S24) : Bool := l.all (fun x => decide (x.f3.length ≤ 12) && decide (x.f0.size ≤ 100)) && decide (l.length ≤ 12)
theorem few_l0 (l : List S24) (hm : l.length ≤ 9223372036854775807) : ∀ (k i : Nat), l.length - i < k → i ≤ l.length →
    chicanelaw14_few.l0 k l l (l.length : Int) (i : Int) = some ((l.drop i).all (fun x => decide (x.f3.length ≤ 12) && decide (x.f0.size ≤ 100)) && decide (l.length ≤ 12)) := by
  intro k
  induction k with
  | zero => intro i h; omega
  | succ k ih =>
    intro i h hi
    unfold chicanelaw14_few.l0
    by_cases hl : i < l.length
    · rw [if_pos (by omega), if_pos (by omega), if_pos (by omega), rdP_at l i hl, List.drop_eq_getElem_cons hl, List.all_cons]
      by_cases h1 : l[i].f3.length ≤ 12
      · rw [if_neg (by omega)]
        by_cases h2 : l[i].f0.size ≤ 100
        · rw [if_neg (by omega), show wrap64 ((i : Int) + 1) = ((i + 1 : Nat) : Int) by rw [w64_in' _ (by omega) (by omega)]; rfl, ih (i + 1) (by omega) (by omega)]
          simp [h1, h2]
        · rw [if_pos (by omega)]
          simp [h2]
      · rw [if_pos (by omega)]
        simp [h1]
    · rw [if_neg (by omega), List.drop_eq_nil_of_le (by omega)]
      simp only [List.all_nil, Bool.true_and, Option.some.injEq]
      rw [Bool.eq_iff_iff, decide_eq_true_eq, decide_eq_true_eq]
      omega
theorem few_is (l : List S24) (hm : l.length ≤ 9223372036854775807) (k : Nat) (hk : l.length + 1 ≤ k) : chicanelaw14_few.f k l = some (fewB l) := by
  have := few_l0 l hm k 0 (by omega) (by omega)
  rw [List.drop_zero] at this
  exact this
theorem nearN_is (a : Int) : PNamA.chicaneref01_Near.f a = some (nearN a : Int) := ToxRef.near_is a
theorem textl0_same : ∀ (k : Nat) (x : Int) (y : ByteArray), PNamA.chicaneref01_Text.l0 k x y = PToxR.chicaneref01_Text.l0 k x y := by
  intro k
  induction k with
  | zero => intro x y; rfl
  | succ k ih => intro x y; unfold PNamA.chicaneref01_Text.l0 PToxR.chicaneref01_Text.l0; rw [ih]
theorem ntext_is (a : Int) (k : Nat) (hk : 16 ≤ k) : PNamA.chicaneref01_Text.f k a = some (tickText a) := by
  rw [← ToxRef.reftext_is a k hk]
  unfold PNamA.chicaneref01_Text.f PToxR.chicaneref01_Text.f
  rw [nearN_is, ToxRef.near_is, Option.bind_some, Option.bind_some, textl0_same]
theorem refText_is (n : ByteArray) (k : Int) (up : Bool) (o a b : Int) : ToxRef.refText n k up o a b = textOf n k up o a b := by
  unfold ToxRef.refText textOf
  by_cases h : checkOf n k up o a b = 0
  · rw [if_pos h, if_pos h]
    unfold signs
    by_cases hk : k ≤ 3
    · rw [if_pos hk, if_pos hk]
      apply ByteArray.ext
      apply Array.toList_inj.1
      cases up <;> simp [joined, Lib.join, List.intercalate, List.intersperse, ByteArray.data_append, ToxRef.blk, ToxRef.wayR, wayOf, List.append_assoc]
    · rw [if_neg hk, if_neg hk]
      apply ByteArray.ext
      apply Array.toList_inj.1
      cases up <;> simp [joined, Lib.join, List.intercalate, List.intersperse, ByteArray.data_append, ToxRef.blk, ToxRef.wayR, wayOf, List.append_assoc]
  · rw [if_neg h, if_neg h]
def szM (n : Nat) : Prop := n ≤ 9223372036854775807
theorem rfind_l0 (l : List S39) (hm : l.length ≤ 1000000) (s : ByteArray) : ∀ (k i : Nat), l.length - i < k → i ≤ l.length →
    chicaneref14_find.l0 k l s (i : Int) = some (Lib.idxFromS ((namesT l).drop i) s i) := by
  intro k
  induction k with
  | zero => intro i h; omega
  | succ k ih =>
    intro i h hi
    unfold chicaneref14_find.l0
    by_cases hl : i < l.length
    · have hd : (namesT l).drop i = l[i].f0 :: (namesT l).drop (i + 1) := by
        rw [namesT, List.drop_eq_getElem_cons (by simpa using hl)]; simp
      rw [if_pos (by omega), if_pos (by omega), rdT_at l i hl, hd, Lib.idxFromS]
      by_cases he : l[i].f0 = s
      · rw [if_pos ((nm_toList_eq_iff _ _).2 he), if_pos he]
      · rw [if_neg (fun h2 => he ((nm_toList_eq_iff _ _).1 h2)), if_neg he, show wrap64 ((i : Int) + 1) = ((i + 1 : Nat) : Int) by rw [w64_in' _ (by omega) (by omega)]; rfl]
        exact ih (i + 1) (by omega) (by omega)
    · rw [if_neg (by omega), List.drop_eq_nil_of_le (by simp [namesT]; omega)]
      rfl
theorem rfind_is (l : List S39) (hm : l.length ≤ 1000000) (s : ByteArray) (k : Nat) (hk : l.length < k) : chicaneref14_find.f k l s = some (place (namesT l) s) := by
  have := rfind_l0 l hm s k 0 (by omega) (by omega)
  rw [List.drop_zero] at this
  exact this
theorem dup_step (ns : List ByteArray) (i : Nat) (h : i < ns.length) : place ns ns[i] = (i : Int) ↔ ¬ 0 ≤ place (ns.take i) ns[i] := by
  constructor
  · intro hp hge
    have hmem : ns[i] ∈ ns.take i := by
      apply Classical.byContradiction
      intro hn
      have := place_neg.2 hn
      omega
    obtain ⟨j, hj⟩ := List.mem_iff_getElem?.1 hmem
    rw [List.getElem?_take] at hj
    split at hj
    · rename_i hji
      rcases place_spec ns ns[i] with ⟨h1, _⟩ | ⟨k, h1, h2, h3⟩
      · omega
      · exact h3 j (by omega) hj
    · cases hj
  · intro hn
    have hmem : ns[i] ∉ ns.take i := place_neg.1 (by omega)
    rcases place_spec ns ns[i] with ⟨_, h2⟩ | ⟨k, h1, h2, h3⟩
    · exact absurd (List.getElem_mem h) h2
    · have a : ¬ i < k := fun hik => h3 i hik (List.getElem?_eq_getElem h)
      have b : ¬ k < i := fun hki => hmem (List.mem_iff_getElem?.2 ⟨k, by rw [List.getElem?_take, if_pos hki]; exact h2⟩)
      rw [h1]
      omega
theorem rchk_l1 (l : List S39) (hm : l.length ≤ 1000) (a : ByteArray) (b : Bool) (c : Int) : ∀ (k i : Nat), (l.length - i) + l.length + 1 < k → i ≤ l.length →
    chicaneref14_Check.l1 k (i : Int) a b c l = some (if dupR (namesT l) ((namesT l).drop i) i then 141 else 0) := by
  intro k
  induction k with
  | zero => intro i h; omega
  | succ k ih =>
    intro i h hi
    unfold chicaneref14_Check.l1
    by_cases hl : i < l.length
    · have hd : (namesT l).drop i = l[i].f0 :: (namesT l).drop (i + 1) := by
        rw [namesT, List.drop_eq_getElem_cons (by simpa using hl)]; simp
      have hln : i < (namesT l).length := by simpa [namesT] using hl
      have hg : (namesT l)[i] = l[i].f0 := by simp [namesT]
      have ht : namesT (l.take i) = (namesT l).take i := by simp [namesT, List.map_take]
      have hds := dup_step (namesT l) i hln
      rw [hg] at hds
      rw [if_pos (by omega), if_pos (by omega), if_pos (by omega), rdT_at l i hl, hd, dupR, Int.toNat_natCast, rfind_is _ (by rw [List.length_take]; omega) _ k (by rw [List.length_take]; omega), Option.bind_some, ht]
      by_cases hp : place (namesT l) l[i].f0 = (i : Int)
      · rw [if_neg (show ¬ place _ _ ≥ 0 from hds.1 hp), if_pos hp, show wrap64 ((i : Int) + 1) = ((i + 1 : Nat) : Int) by rw [w64_in' _ (by omega) (by omega)]; rfl]
        exact ih (i + 1) (by omega) (by omega)
      · have h0 : 0 ≤ place ((namesT l).take i) l[i].f0 := Classical.byContradiction fun hn => hp (hds.2 hn)
        rw [if_pos h0, if_neg hp]
        rfl
    · rw [if_neg (by omega), List.drop_eq_nil_of_le (by simp [namesT]; omega)]
      rfl
theorem rchk_l0 (l : List S39) (hm : l.length ≤ 1000) (hz : ∀ t ∈ l, szM t.f0.size) (a : ByteArray) (b : Bool) (c : Int) : ∀ (k i : Nat), (l.length - i) + 2 * l.length + 2 < k → i ≤ l.length →
    chicaneref14_Check.l0 k (i : Int) a b c l = some (if firstBad (l.drop i) = 0 then (if dupR (namesT l) (namesT l) 0 then 141 else 0) else firstBad (l.drop i)) := by
  intro k
  induction k with
  | zero => intro i h; omega
  | succ k ih =>
    intro i h hi
    unfold chicaneref14_Check.l0
    by_cases hl : i < l.length
    · have hzi : l[i].f0.size ≤ 9223372036854775807 := hz _ (List.getElem_mem hl)
      rw [if_pos (by omega), if_pos (by omega), rdT_at l i hl, List.drop_eq_getElem_cons hl, firstBad]
      simp only [chicaneref09_Check.f, if_pos hzi, Option.bind_some]
      by_cases hp : ckT l[i] = 0
      · rw [if_pos (show checkOf _ _ _ _ _ _ = 0 from hp), if_pos hp, show wrap64 ((i : Int) + 1) = ((i + 1 : Nat) : Int) by rw [w64_in' _ (by omega) (by omega)]; rfl]
        exact ih (i + 1) (by omega) (by omega)
      · rw [if_neg (show ¬ checkOf _ _ _ _ _ _ = 0 from hp), if_neg hp, if_neg hp]
        rfl
    · have hi2 : i = l.length := by omega
      rw [if_neg (by omega), List.drop_eq_nil_of_le (by omega)]
      have := rchk_l1 l hm a b c k 0 (by omega) (by omega)
      rw [List.drop_zero] at this
      rw [if_pos (show firstBad [] = 0 from rfl)]
      exact this
def szP (x : S24) : Prop := szM x.f0.size ∧ ∀ t ∈ x.f3, szM t.f0.size
theorem rchk_is (x : S24) (hz : szP x) (k : Nat) (hk : 40 ≤ k) : chicaneref14_Check.f k x.f0 x.f1 x.f2 x.f3 = some (chkP x) := by
  obtain ⟨k, rfl⟩ : ∃ m, k = m + 1 := ⟨k - 1, by omega⟩
  have hz0 : x.f0.size ≤ 9223372036854775807 := hz.1
  unfold chicaneref14_Check.f chkP
  simp only [chicaneref09_Name.f, if_pos hz0, Option.bind_some]
  by_cases hn : nameOk x.f0 = true
  · rw [if_pos hn, if_pos hn]
    have hj : ∀ q : Bool, chicaneref14_Check.j0 (k + 1) q x.f0 x.f1 x.f2 x.f3 = some (if q then 144 else if x.f3.length > 8 then 143 else toxOk x.f3) := by
      intro q
      cases q with
      | true => rfl
      | false =>
        show (if (false : Bool) = true then some 144 else if (x.f3.length : Int) > 8 then some 143 else chicaneref14_Check.l0 k 0 x.f0 x.f1 x.f2 x.f3) = some (if (false : Bool) = true then 144 else if x.f3.length > 8 then 143 else toxOk x.f3)
        rw [if_neg Bool.false_ne_true, if_neg Bool.false_ne_true]
        by_cases h3 : x.f3.length > 8
        · rw [if_pos (by omega), if_pos h3]
        · rw [if_neg (by omega), if_neg h3]
          have := rchk_l0 x.f3 (by omega) hz.2 x.f0 x.f1 x.f2 k 0 (by omega) (by omega)
          rw [List.drop_zero] at this
          exact this
    by_cases h1 : x.f2 < 1
    · rw [if_pos h1, hj, if_neg (show ¬ (1 ≤ x.f2 ∧ x.f2 ≤ 16) by omega)]
      rfl
    · rw [if_neg h1, hj]
      by_cases h2 : x.f2 > 16
      · rw [if_neg (show ¬ (1 ≤ x.f2 ∧ x.f2 ≤ 16) by omega), decide_eq_true h2]
        rfl
      · rw [if_pos (show (1 ≤ x.f2 ∧ x.f2 ≤ 16) by omega), decide_eq_false h2]
        rfl
  · rw [if_neg hn, if_neg hn]
def textT (t : S39) : ByteArray := textOf t.f0 t.f1 t.f2 t.f3 t.f4 t.f5
def headP (x : S24) : ByteArray := x.f0 ++ (⟨#[32]⟩ : ByteArray) ++ (if x.f1 then (⟨#[111, 110]⟩ : ByteArray) else (⟨#[111, 102, 102]⟩ : ByteArray)) ++ (⟨#[32]⟩ : ByteArray) ++ tickText x.f2 ++ (⟨#[32]⟩ : ByteArray) ++ tickText (x.f3.length : Int)
def linesOf (x : S24) : List ByteArray := if chkP x = 0 then headP x :: x.f3.map textT else []
theorem lines_l0 (l : List S39) (hm : l.length ≤ 1000) : ∀ (k i : Nat) (acc : List ByteArray), l.length - i < k → i ≤ l.length → acc.length = i + 1 →
    names_Lines.l0 k acc l (l.length : Int) (i : Int) = some (acc ++ (l.drop i).map textT) := by
  intro k
  induction k with
  | zero => intro i acc h; omega
  | succ k ih =>
    intro i acc h hi ha
    unfold names_Lines.l0
    by_cases hl : i < l.length
    · rw [if_pos (by omega), if_pos (by omega), if_pos (by omega), rdT_at l i hl, List.drop_eq_getElem_cons hl]
      simp only [toxic_Text.f, Option.bind_some]
      rw [if_pos (by omega), show wrap64 ((i : Int) + 1) = ((i + 1 : Nat) : Int) by rw [w64_in' _ (by omega) (by omega)]; rfl, ih (i + 1) _ (by omega) (by omega) (by simp [ha])]
      rw [List.append_assoc, List.singleton_append, List.map_cons]
      rfl
    · rw [if_neg (by omega), List.drop_eq_nil_of_le (by omega)]
      simp
theorem rlines_l0 (l : List S39) (hm : l.length ≤ 1000) (hz : ∀ t ∈ l, szM t.f0.size) (a : ByteArray) (b : Bool) (c : Int) : ∀ (k i : Nat) (acc : List ByteArray), l.length - i < k → i ≤ l.length → acc.length = i + 1 →
    chicaneref14_Lines.l0 k acc (i : Int) a b c l = some (acc ++ (l.drop i).map textT) := by
  intro k
  induction k with
  | zero => intro i acc h; omega
  | succ k ih =>
    intro i acc h hi ha
    unfold chicaneref14_Lines.l0
    by_cases hl : i < l.length
    · have hzi : l[i].f0.size ≤ 9223372036854775807 := hz _ (List.getElem_mem hl)
      rw [if_pos (by omega), if_pos (by omega), rdT_at l i hl, List.drop_eq_getElem_cons hl]
      simp only [chicaneref09_Text.f, if_pos hzi, Option.bind_some, refText_is]
      rw [if_pos (by omega), show wrap64 ((i : Int) + 1) = ((i + 1 : Nat) : Int) by rw [w64_in' _ (by omega) (by omega)]; rfl, ih (i + 1) _ (by omega) (by omega) (by simp [ha])]
      rw [List.append_assoc, List.singleton_append, List.map_cons]
      rfl
    · rw [if_neg (by omega), List.drop_eq_nil_of_le (by omega)]
      simp
theorem chk_name {x : S24} (h : chkP x = 0) : x.f0.size ≤ 16 ∧ x.f3.length ≤ 8 := by
  unfold chkP at h
  split at h
  · rename_i hn
    refine ⟨name_size _ hn, ?_⟩
    split at h
    · split at h
      · cases h
      · omega
    · cases h
  · cases h
theorem lines_is (x : S24) (k : Nat) (hk : 40 ≤ k) : names_Lines.f k x.f0 x.f1 x.f2 x.f3 = some (linesOf x) := by
  obtain ⟨k, rfl⟩ : ∃ m, k = m + 1 := ⟨k - 1, by omega⟩
  unfold names_Lines.f linesOf
  rw [check_is' x (k + 1) (by omega), Option.bind_some]
  by_cases hc : chkP x = 0
  · rw [if_pos hc, if_pos hc]
    obtain ⟨hs, hl⟩ := chk_name hc
    have t1 := tickText_size x.f2
    have t2 := tickText_size (x.f3.length : Int)
    have b1 : (⟨#[32]⟩ : ByteArray).size = 1 := rfl
    have hj : ∀ y : ByteArray, y.size ≤ 10 → names_Lines.j0 (k + 1) y x.f0 x.f1 x.f2 x.f3 = some ((x.f0 ++ (⟨#[32]⟩ : ByteArray) ++ y ++ (⟨#[32]⟩ : ByteArray) ++ tickText x.f2 ++ (⟨#[32]⟩ : ByteArray) ++ tickText (x.f3.length : Int)) :: x.f3.map textT) := by
      intro y hy
      unfold names_Lines.j0
      simp only [tick_Text.f, Option.bind_some, ByteArray.size_append]
      rw [if_pos (by omega), if_pos (by omega), if_pos (by omega), if_pos (by omega), if_pos (by omega), if_pos (by omega)]
      have := lines_l0 x.f3 (by omega) k 0 [x.f0 ++ (⟨#[32]⟩ : ByteArray) ++ y ++ (⟨#[32]⟩ : ByteArray) ++ tickText x.f2 ++ (⟨#[32]⟩ : ByteArray) ++ tickText (x.f3.length : Int)] (by omega) (by omega) rfl
      rw [List.drop_zero] at this
      exact this
    cases hb : x.f1 with
    | true =>
      rw [if_pos rfl, ← hb, hj _ (by decide), headP, hb]
      rfl
    | false =>
      rw [if_neg (by simp), ← hb, hj _ (by decide), headP, hb]
      rfl
  · rw [if_neg hc, if_neg hc]
theorem rlines_is (x : S24) (hz : szP x) (k : Nat) (hk : 60 ≤ k) : chicaneref14_Lines.f k x.f0 x.f1 x.f2 x.f3 = some (linesOf x) := by
  obtain ⟨k, rfl⟩ : ∃ m, k = m + 1 := ⟨k - 1, by omega⟩
  unfold chicaneref14_Lines.f linesOf
  rw [rchk_is x hz (k + 1) (by omega), Option.bind_some]
  by_cases hc : chkP x = 0
  · rw [if_pos hc, if_pos hc]
    obtain ⟨hs, hl⟩ := chk_name hc
    have t1 := tickText_size x.f2
    have t2 := tickText_size (x.f3.length : Int)
    have b1 : (⟨#[32]⟩ : ByteArray).size = 1 := rfl
    have hj : ∀ y : ByteArray, y.size ≤ 10 → chicaneref14_Lines.j0 (k + 1) y x.f0 x.f1 x.f2 x.f3 = some ((x.f0 ++ y ++ tickText x.f2 ++ (⟨#[32]⟩ : ByteArray) ++ tickText (x.f3.length : Int)) :: x.f3.map textT) := by
      intro y hy
      have hk2 : 16 ≤ k := by omega
      simp only [chicaneref14_Lines.j0, ntext_is _ k hk2, Option.bind_some, ByteArray.size_append]
      rw [if_pos (by omega), if_pos (by omega), if_pos (by omega), if_pos (by omega)]
      have := rlines_l0 x.f3 (by omega) hz.2 x.f0 x.f1 x.f2 k 0 [x.f0 ++ y ++ tickText x.f2 ++ (⟨#[32]⟩ : ByteArray) ++ tickText (x.f3.length : Int)] (by omega) (by omega) rfl
      rw [List.drop_zero] at this
      exact this
    have e1 : (⟨#[32, 111, 110, 32]⟩ : ByteArray) = (⟨#[32]⟩ : ByteArray) ++ ((⟨#[111, 110]⟩ : ByteArray) ++ (⟨#[32]⟩ : ByteArray)) := by decide
    have e2 : (⟨#[32, 111, 102, 102, 32]⟩ : ByteArray) = (⟨#[32]⟩ : ByteArray) ++ ((⟨#[111, 102, 102]⟩ : ByteArray) ++ (⟨#[32]⟩ : ByteArray)) := by decide
    cases hb : x.f1 with
    | true =>
      rw [if_pos rfl, ← hb, hj _ (by decide), headP, hb, e1]
      simp only [ByteArray.append_assoc]
      rfl
    | false =>
      rw [if_neg (by simp), ← hb, hj _ (by decide), headP, hb, e2]
      simp only [ByteArray.append_assoc]
      rfl
  · rw [if_neg hc, if_neg hc]
end Go.Proofs.Ytlglbpjccpdloaa.Ext
set_option linter.unusedVariables false
namespace Go.Proofs.Ytlglbpjccpdloaa.NmLaw
open Go.Proofs.Ytlglbpjccpdloaa.PNamA
set_option maxRecDepth 100000 in
theorem alive_100 : chicanelaw14_alive.f 100 = some true := by kernel_rfl
theorem alive_is (k : Nat) (hk : 100 ≤ k) : chicanelaw14_alive.f k = some true := by
  obtain ⟨m, rfl⟩ : ∃ m, k = 100 + m := ⟨k - 100, by omega⟩
  induction m with
  | zero => exact alive_100
  | succ m ih => exact chicanelaw14_alive.mono _ _ (ih (by omega))
end Go.Proofs.Ytlglbpjccpdloaa.NmLaw
namespace Go.Proofs.Ytlglbpjccpdloaa.PNamA
open Go.Proofs.Ytlglbpjccpdloaa.Ext Go.Proofs.Ytlglbpjccpdloaa.ToxZ Go.RowKit Go.Proofs.YtlglbpjccpdloaaW.PrintWords Go.Proofs.YtlglbpjccpdloaaW.PrintLast Go.Proofs.YtlglbpjccpdloaaW.PrintMore
attribute [local go_sem] max2_int min2_int max_two min_two max_three min_three max_four min_four   -- for this text's walks alone
set_option linter.unusedVariables false
set_option linter.unusedSimpArgs false
private theorem pw_size_mk (l : Array UInt8) : (⟨l⟩ : ByteArray).size = l.size := rfl
mutual
def chicanelaw14_NamesChecks.j0 : Nat → List ByteArray → List ByteArray → Bool → Option (Bool)
  | 0, _, _, _ => none
  | k + 1, x3, x4, x26 => if x26 = true then (some false) else (chicanelaw14_NamesChecks.l0 k x3 x4 (x3.length : Int) 0)
def chicanelaw14_NamesChecks.l0 : Nat → List ByteArray → List ByteArray → Int → Int → Option (Bool)
  | 0, _, _, _, _ => none
  | k + 1, x3, x4, x28, x29 => if x29 < x28 then (if 0 ≤ x29 then (if x29 < (x3.length : Int) then (if x29 < (x4.length : Int) then (if (rdOf ByteArray.empty x3 x29).toList = (rdOf ByteArray.empty x4 x29).toList then (chicanelaw14_NamesChecks.l0 k x3 x4 x28 (wrap64 (x29 + 1))) else (some false)) else (none)) else (none)) else (none)) else ((chicanelaw14_alive.f k).bind fun t208 => (some t208))
end
def chicanelaw14_NamesChecks.f (k : Nat) (a0_0 : ByteArray) (a0_1 : Bool) (a0_2 : Int) (l0_3 : List (S39)) : Option (Bool) := (chicanelaw14_few.f k (([(⟨a0_0, a0_1, a0_2, l0_3⟩ : S24)] : List (S24)))).bind fun t196 => (if t196 = true then ((names_Lines.f k a0_0 a0_1 a0_2 l0_3).bind fun t198 => ((chicaneref14_Lines.f k a0_0 a0_1 a0_2 l0_3).bind fun t201 => (if (t198.length : Int) = (t201.length : Int) then ((names_Check.f k a0_0 a0_1 a0_2 l0_3).bind fun t204 => ((chicaneref14_Check.f k a0_0 a0_1 a0_2 l0_3).bind fun t205 => (chicanelaw14_NamesChecks.j0 k t198 t201 (t204 != t205)))) else (chicanelaw14_NamesChecks.j0 k t198 t201 true)))) else ((chicanelaw14_alive.f k).bind fun t197 => (some t197)))
theorem chicanelaw14_NamesChecks.mono_l : ∀ k, (∀ y0 y1 y2, LeO (chicanelaw14_NamesChecks.j0 k y0 y1 y2) (chicanelaw14_NamesChecks.j0 (k + 1) y0 y1 y2)) ∧ (∀ y0 y1 y2 y3, LeO (chicanelaw14_NamesChecks.l0 k y0 y1 y2 y3) (chicanelaw14_NamesChecks.l0 (k + 1) y0 y1 y2 y3))
  | 0 => ⟨fun _ _ _ r h => by simp [chicanelaw14_NamesChecks.j0] at h, fun _ _ _ _ r h => by simp [chicanelaw14_NamesChecks.l0] at h⟩
  | k + 1 => by
    obtain ⟨ih0, ih1⟩ := chicanelaw14_NamesChecks.mono_l k
    refine ⟨?_, ?_⟩
    · intro y0 y1 y2
      unfold chicanelaw14_NamesChecks.j0
      repeat' first
      | (with_reducible exact ih0 _ _ _)
      | (with_reducible exact ih1 _ _ _ _)
      | (with_reducible exact chicanelaw14_alive.mono _)
      | (with_reducible exact chicanelaw14_few.mono _ _)
      | (with_reducible exact chicaneref14_Check.mono _ _ _ _ _)
      | (with_reducible exact chicaneref14_Lines.mono _ _ _ _ _)
      | (with_reducible exact names_Check.mono _ _ _ _ _)
      | (with_reducible exact names_Lines.mono _ _ _ _ _)
      | (with_reducible exact LeO.refl _)
      | (with_reducible exact LeO.none _)
      | (with_reducible refine LeO.ite ?_ ?_)
      | (with_reducible refine LeO.bind ?_ (fun _ => ?_))
      | exact ih0 _ _ _
      | exact ih1 _ _ _ _
      | exact chicanelaw14_alive.mono _
      | exact chicanelaw14_few.mono _ _
      | exact chicaneref14_Check.mono _ _ _ _ _
      | exact chicaneref14_Lines.mono _ _ _ _ _
      | exact names_Check.mono _ _ _ _ _
      | exact names_Lines.mono _ _ _ _ _
      | exact LeO.none _
      | refine LeO.ite ?_ ?_
      | refine LeO.bind ?_ (fun _ => ?_)
    · intro y0 y1 y2 y3
      unfold chicanelaw14_NamesChecks.l0
      repeat' first
      | (with_reducible exact ih0 _ _ _)
      | (with_reducible exact ih1 _ _ _ _)
      | (with_reducible exact chicanelaw14_alive.mono _)
      | (with_reducible exact chicanelaw14_few.mono _ _)
      | (with_reducible exact chicaneref14_Check.mono _ _ _ _ _)
      | (with_reducible exact chicaneref14_Lines.mono _ _ _ _ _)
      | (with_reducible exact names_Check.mono _ _ _ _ _)
      | (with_reducible exact names_Lines.mono _ _ _ _ _)
      | (with_reducible exact LeO.refl _)
      | (with_reducible exact LeO.none _)
      | (with_reducible refine LeO.ite ?_ ?_)
      | (with_reducible refine LeO.bind ?_ (fun _ => ?_))
      | exact ih0 _ _ _
      | exact ih1 _ _ _ _
      | exact chicanelaw14_alive.mono _
      | exact chicanelaw14_few.mono _ _
      | exact chicaneref14_Check.mono _ _ _ _ _
      | exact chicaneref14_Lines.mono _ _ _ _ _
      | exact names_Check.mono _ _ _ _ _
      | exact names_Lines.mono _ _ _ _ _
      | exact LeO.none _
      | refine LeO.ite ?_ ?_
      | refine LeO.bind ?_ (fun _ => ?_)
theorem chicanelaw14_NamesChecks.mono : ∀ a0 a1 a2 a3 k, LeO (chicanelaw14_NamesChecks.f k a0 a1 a2 a3) (chicanelaw14_NamesChecks.f (k + 1) a0 a1 a2 a3) := by
  intro a0 a1 a2 a3 k
  obtain ⟨ih0, ih1⟩ := chicanelaw14_NamesChecks.mono_l k
  unfold chicanelaw14_NamesChecks.f
  repeat' first
      | (with_reducible exact ih0 _ _ _)
      | (with_reducible exact ih1 _ _ _ _)
      | (with_reducible exact chicanelaw14_alive.mono _)
      | (with_reducible exact chicanelaw14_few.mono _ _)
      | (with_reducible exact chicaneref14_Check.mono _ _ _ _ _)
      | (with_reducible exact chicaneref14_Lines.mono _ _ _ _ _)
      | (with_reducible exact names_Check.mono _ _ _ _ _)
      | (with_reducible exact names_Lines.mono _ _ _ _ _)
      | (with_reducible exact LeO.refl _)
      | (with_reducible exact LeO.none _)
      | (with_reducible refine LeO.ite ?_ ?_)
      | (with_reducible refine LeO.bind ?_ (fun _ => ?_))
      | exact ih0 _ _ _
      | exact ih1 _ _ _ _
      | exact chicanelaw14_alive.mono _
      | exact chicanelaw14_few.mono _ _
      | exact chicaneref14_Check.mono _ _ _ _ _
      | exact chicaneref14_Lines.mono _ _ _ _ _
      | exact names_Check.mono _ _ _ _ _
      | exact names_Lines.mono _ _ _ _ _
      | exact LeO.none _
      | refine LeO.ite ?_ ?_
      | refine LeO.bind ?_ (fun _ => ?_)
def chicanelaw14_NamesChecks.T4 : Bool × List (List Nat × List Nat) := (true, [([], []), ([0], [0]), ([], []), ([2], [2]), ([1, 3], [1, 3]), ([4], [4]), ([5], [5]), ([6, 5, 5], [5, 6]), ([5], [5]), ([8, 7, 5], [5, 8]), ([7, 9, 5], [5, 7, 9]), ([5, 10], [5, 10])])
def chicanelaw14_NamesChecks.B4 : List Nat := [0, 1, 0, 4, 15, 31, 63, 127, 63, 511, 1023, 2047]
theorem chicanelaw14_NamesChecks.tab4 : rtab .any (opsOf Try.f3 4) = chicanelaw14_NamesChecks.T4 := by kernel_rfl
theorem chicanelaw14_NamesChecks.bits4 : waitsOk chicanelaw14_NamesChecks.T4.2 chicanelaw14_NamesChecks.B4 = true := by kernel_rfl
def chicanelaw14_NamesChecks.T9 : Bool × List (List Nat × List Nat) := (true, [([], []), ([], []), ([0, 1], [0, 1]), ([2], [2]), ([], []), ([], []), ([4, 5], [4, 5]), ([6], [6]), ([3, 7], [3, 7])])
def chicanelaw14_NamesChecks.B9 : List Nat := [0, 0, 3, 7, 0, 0, 48, 112, 255]
theorem chicanelaw14_NamesChecks.tab9 : rtab .any (opsOf Try.f3 9) = chicanelaw14_NamesChecks.T9 := by kernel_rfl
theorem chicanelaw14_NamesChecks.bits9 : waitsOk chicanelaw14_NamesChecks.T9.2 chicanelaw14_NamesChecks.B9 = true := by kernel_rfl
set_option maxHeartbeats 8000000 in
set_option maxRecDepth 100000 in
theorem chicanelaw14_NamesChecks.calls (k : Nat) (a0_0 : ByteArray) (a0_1 : Bool) (a0_2 : Int) (P0_3_ : Nat → Prop) (A0_3 : Option Addr) (c0_3 : Nat) (l0_3 : List (S39)) (r : Bool) (w : World) (hs0_3 : Kd.V k39 39 w w.heap.size (fun k_ => P0_3_ k_) (.slice A0_3 l0_3.length c0_3) l0_3) (h : chicanelaw14_NamesChecks.f k a0_0 a0_1 a0_2 l0_3 = some r) :
    Calls Try.prog 3 #[.agg #[.string a0_0, .bool a0_1, .int .i64 a0_2, .slice A0_3 l0_3.length c0_3]] w fun e w' => e = .returned (.bool r) ∧ Below w.heap.size w w' := by
  have hu24 := Try.underlying24
  have HO0_3 := Aside0.mk (show Kd.V k39 39 w w.heap.size (fun k_ => (P0_3_ k_ ∨ w.heap.size ≤ k_)) (.slice A0_3 l0_3.length c0_3) l0_3 from Kd.V_mono hs0_3 (fun k_ hk => .inl hk))
  have HB := Aside0.mk (Below.refl w.heap.size w)
  have H : ((chicanelaw14_few.f k (([(⟨a0_0, a0_1, a0_2, l0_3⟩ : S24)] : List (S24)))).bind fun t196 => (if t196 = true then ((names_Lines.f k a0_0 a0_1 a0_2 l0_3).bind fun t198 => ((chicaneref14_Lines.f k a0_0 a0_1 a0_2 l0_3).bind fun t201 => (if (t198.length : Int) = (t201.length : Int) then ((names_Check.f k a0_0 a0_1 a0_2 l0_3).bind fun t204 => ((chicaneref14_Check.f k a0_0 a0_1 a0_2 l0_3).bind fun t205 => (chicanelaw14_NamesChecks.j0 k t198 t201 (t204 != t205)))) else (chicanelaw14_NamesChecks.j0 k t198 t201 true)))) else ((chicanelaw14_alive.f k).bind fun t197 => (some t197)))) = some r := h
  clear h
  obtain ⟨y193, hy193⟩ : ∃ y_ : List (S24), y_ = (([(⟨a0_0, a0_1, a0_2, l0_3⟩ : S24)] : List (S24))) := ⟨_, rfl⟩
  replace H : ((chicanelaw14_few.f k y193).bind fun t196 => (if t196 = true then ((names_Lines.f k a0_0 a0_1 a0_2 l0_3).bind fun t198 => ((chicaneref14_Lines.f k a0_0 a0_1 a0_2 l0_3).bind fun t201 => (if (t198.length : Int) = (t201.length : Int) then ((names_Check.f k a0_0 a0_1 a0_2 l0_3).bind fun t204 => ((chicaneref14_Check.f k a0_0 a0_1 a0_2 l0_3).bind fun t205 => (chicanelaw14_NamesChecks.j0 k t198 t201 (t204 != t205)))) else (chicanelaw14_NamesChecks.j0 k t198 t201 true)))) else ((chicanelaw14_alive.f k).bind fun t197 => (some t197)))) = some r := by first | (rw [hy193]; with_reducible exact H) | (have H2_ := (Option.bind_some _ _).symm.trans H; rw [hy193]; with_reducible exact H2_) | (have H2_ := (Option.bind_some _ _).symm.trans H; with_reducible exact H2_) | with_reducible exact H | (rw [hy193]; exact H) | exact H
  have Ny193 := Aside0.mk hy193
  clear hy193
  replace H := Option.bind_eq_some_iff.mp H
  obtain ⟨t196, A20, H⟩ := H
  replace H : (if t196 = true then ((names_Lines.f k a0_0 a0_1 a0_2 l0_3).bind fun t198 => ((chicaneref14_Lines.f k a0_0 a0_1 a0_2 l0_3).bind fun t201 => (if (t198.length : Int) = (t201.length : Int) then ((names_Check.f k a0_0 a0_1 a0_2 l0_3).bind fun t204 => ((chicaneref14_Check.f k a0_0 a0_1 a0_2 l0_3).bind fun t205 => (chicanelaw14_NamesChecks.j0 k t198 t201 (t204 != t205)))) else (chicanelaw14_NamesChecks.j0 k t198 t201 true)))) else ((chicanelaw14_alive.f k).bind fun t197 => (some t197))) = some r := H
  have A2 := Aside0.mk A20
  clear A20
  by_cases c3 : t196 = true
  · subst c3
    have H1 : ((names_Lines.f k a0_0 a0_1 a0_2 l0_3).bind fun t198 => ((chicaneref14_Lines.f k a0_0 a0_1 a0_2 l0_3).bind fun t201 => (if (t198.length : Int) = (t201.length : Int) then ((names_Check.f k a0_0 a0_1 a0_2 l0_3).bind fun t204 => ((chicaneref14_Check.f k a0_0 a0_1 a0_2 l0_3).bind fun t205 => (chicanelaw14_NamesChecks.j0 k t198 t201 (t204 != t205)))) else (chicanelaw14_NamesChecks.j0 k t198 t201 true)))) = some r := by rw [if_pos rfl] at H; exact H
    clear H
    have H := H1
    clear H1
    replace H := Option.bind_eq_some_iff.mp H
    obtain ⟨t198, A40, H⟩ := H
    replace H : ((chicaneref14_Lines.f k a0_0 a0_1 a0_2 l0_3).bind fun t201 => (if (t198.length : Int) = (t201.length : Int) then ((names_Check.f k a0_0 a0_1 a0_2 l0_3).bind fun t204 => ((chicaneref14_Check.f k a0_0 a0_1 a0_2 l0_3).bind fun t205 => (chicanelaw14_NamesChecks.j0 k t198 t201 (t204 != t205)))) else (chicanelaw14_NamesChecks.j0 k t198 t201 true))) = some r := H
    have A4 := Aside0.mk A40
    clear A40
    replace H := Option.bind_eq_some_iff.mp H
    obtain ⟨t201, A50, H⟩ := H
    replace H : (if (t198.length : Int) = (t201.length : Int) then ((names_Check.f k a0_0 a0_1 a0_2 l0_3).bind fun t204 => ((chicaneref14_Check.f k a0_0 a0_1 a0_2 l0_3).bind fun t205 => (chicanelaw14_NamesChecks.j0 k t198 t201 (t204 != t205)))) else (chicanelaw14_NamesChecks.j0 k t198 t201 true)) = some r := H
    have A5 := Aside0.mk A50
    clear A50
    have HC6 := Aside0.mk H
    clear H
    go_enter Try.func3, Try.ntmps3
    try go_wp2_with (first | ((with_reducible refine gate_dst (N := 1) rfl ?_); refine box_event ?hg (N := 1) ?hd (cs := #[.string a0_0, .bool a0_1, .int .i64 a0_2, .slice A0_3 l0_3.length c0_3]) (t := 24) ?hr ?_; (case hd => rfl); (case hg => rfl); (case hr => first | (go_simp; done) | (go_simp; rfl)); intro gb192 hg w7 hbox hb; have n0_ := Aside0.mk (Kd.V_below (Kd.V_elderB (by (with_reducible repeat (first | apply Kd.V_alloc | apply Kd.V_drewN | apply Kd.V_drew)); exact HO0_3.out) gb192 (Nat.le_of_eq hg.symm)) hb); have n1_ := Aside0.mk (below_step (by repeat (first | (with_reducible first | exact HB.out | apply below_alloc | apply pw_below_drewN | apply below_drew1) | exact HB.out)) hb); have n2_ := Aside0.mk (hbox); have n3_ := Aside0.mk ((by rw [hg]; exact (below_size (by repeat (first | (with_reducible first | exact HB.out | apply below_alloc | apply pw_below_drewN | apply below_drew1) | exact HB.out))) : w.heap.size ≤ gb192)); have n4_ := Aside0.mk ((by rw [hg]; exact (below_size (by repeat (first | (with_reducible first | exact HB.out | apply below_alloc | apply pw_below_drewN | apply below_drew1) | exact HB.out))) : w.heap.size ≤ gb192)); clear HO0_3; clear HB; have HO0_3 := n0_; have HB := n1_; have BK192 := n2_; have GW192 := n3_; have GE192 := n4_; clear n0_ n1_ n2_ n3_ n4_; clear hb hbox hg; have hcz8_0 : w7.cell? ⟨gb192, 0, none⟩ = some (.string a0_0) := (blk_cell BK192.out 0).trans rfl; have hcz8_1 : w7.cell? ⟨gb192, 1, none⟩ = some (.bool a0_1) := (blk_cell BK192.out 1).trans rfl; have hcz8_2 : w7.cell? ⟨gb192, 2, none⟩ = some (.int .i64 a0_2) := (blk_cell BK192.out 2).trans rfl; have hcz8_3 : w7.cell? ⟨gb192, 3, none⟩ = some (.slice A0_3 l0_3.length c0_3) := (blk_cell BK192.out 3).trans rfl; have hfz8_0 := blk_frozen BK192.out 0; have hfz8_1 := blk_frozen BK192.out 1; have hfz8_2 := blk_frozen BK192.out 2; have hfz8_3 := blk_frozen BK192.out 3) | ((with_reducible refine gate_dst (N := 7) rfl ?_); refine Kd.N_lit k24 _ 24 ?hg (N' := 7) ?hd (xs := ([(⟨a0_0, a0_1, a0_2, l0_3⟩ : S24)] : List (S24))) (inner := [.string a0_0, .bool a0_1, .int .i64 a0_2, .slice A0_3 l0_3.length c0_3]) (ok := (fun k_ => (P0_3_ k_ ∨ w.heap.size ≤ k_) ∧ k_ ≠ gb192)) (okp := (fun k_ => (P0_3_ k_ ∨ w.heap.size ≤ k_) ∧ k_ ≠ gb192)) ?hr ?hp (fun _ hk => hk) ((show ∀ k_, w7.heap.size ≤ k_ → (fun k_ => (P0_3_ k_ ∨ w.heap.size ≤ k_) ∧ k_ ≠ gb192) k_ from fun k_ hk => ⟨(.inr (Nat.le_trans (below_size (by repeat (first | (with_reducible first | exact HB.out | apply below_alloc | apply pw_below_drewN | apply below_drew1 | refine below_set ?_ GE192.out) | exact HB.out))) hk)), Kd.freshB (g := gb192) (o := .cells #[.string a0_0, .bool a0_1, .int .i64 a0_2, .slice A0_3 l0_3.length c0_3] 24 (0, 0)) (by (with_reducible repeat (first | refine blk_drewN ?_ _ | refine blk_drew ?_ | refine blk_alloc ?_ _)); exact BK192.out) k_ hk⟩) _ (Nat.le_refl _)) (Below.refl _ _) (Nat.le_refl _) (by simp) ?_; (case hd => rfl); (case hg => rfl); (case hr => first | (go_simp; done) | (go_simp; rfl)); (case hp => exact (Reps.c4 (show Kd.FK k24 _ _ (⟨a0_0, a0_1, a0_2, l0_3⟩ : S24) [.string a0_0, .bool a0_1, .int .i64 a0_2, .slice A0_3 l0_3.length c0_3] from (k24_mkF _ _ (⟨a0_0, a0_1, a0_2, l0_3⟩ : S24) (Kd.V_reads' (Kd.V_mono (ok' := (fun k_ => (P0_3_ k_ ∨ w.heap.size ≤ k_) ∧ k_ ≠ gb192)) (HO0_3.out) (fun k_ hk => ⟨hk.1, hk.2⟩))).2.1 (Kd.V_F (Kd.V_mono (ok' := (fun k_ => (P0_3_ k_ ∨ w.heap.size ≤ k_) ∧ k_ ≠ gb192)) (HO0_3.out) (fun k_ hk => ⟨hk.1, hk.2⟩))))) (Reps.none _ _))); intro v194 w9 ho10 hb hg_ hnew_; clear hg_ hnew_; (first | rw [← Ny193.out] at ho10 | (simp only [Int.reduceToNat] at ho10; rw [← Ny193.out] at ho10)); have n0_ := Aside0.mk (Kd.V_elder' (by (with_reducible repeat (first | apply Kd.V_alloc | apply Kd.V_drewN | apply Kd.V_drew)); exact HO0_3.out) (Kd.N_base ho10) hb); have n1_ := Aside0.mk (Kd.N_lower ho10 (below_size (by repeat (first | (with_reducible first | exact HB.out | apply below_alloc | apply pw_below_drewN | apply below_drew1 | refine below_set ?_ GE192.out) | exact HB.out)))); have n2_ := Aside0.mk (blk_below (g := gb192) (o := .cells #[.string a0_0, .bool a0_1, .int .i64 a0_2, .slice A0_3 l0_3.length c0_3] 24 (0, 0)) (by (with_reducible repeat (first | refine blk_drewN ?_ _ | refine blk_drew ?_ | refine blk_alloc ?_ _)); exact BK192.out) hb); have n3_ := Aside0.mk (below_step (by repeat (first | (with_reducible first | exact HB.out | apply below_alloc | apply pw_below_drewN | apply below_drew1 | refine below_set ?_ GE192.out) | exact HB.out)) hb); clear HO0_3; clear BK192; clear HB; have HO0_3 := n0_; have HO195 := n1_; have BK192 := n2_; have HB := n3_; clear n0_ n1_ n2_ n3_; clear hb ho10; obtain ⟨Ao11, co11, eo11⟩ := Kd.N_slice HO195.out; subst eo11) | ((with_reducible refine gate_callee (f := 7) rfl ?_); refine goesL_ (some 8) rfl rfl Try.func7 (by kernel_rfl) rfl #[.slice Ao11 y193.length co11] rfl (by (try simp only [List.map_toArray, List.map_cons, List.map_nil]); first | done | rfl | (simp only [List.length_drop, List.length_take]; rfl)) ?_; (with_reducible refine (chicanelaw14_few.calls k _ _ y193 true _ ?side1 ?side2 A2.out).mono ?_); (case side1 => repeat (first | exact (Kd.N_reads' HO195.out).2.2 | (with_reducible refine Kd.C_alloc ?_ _) | (with_reducible refine Kd.C_drewN ?_ _) | (with_reducible refine Kd.C_drew ?_))); (case side2 => exact (Kd.N_reads' HO195.out).2.1); rintro e w12 ⟨rfl, hb⟩; refine ⟨_, rfl, ?_⟩; have n0_ := Aside0.mk (Kd.V_below (by (with_reducible repeat (first | apply Kd.V_alloc | apply Kd.V_drewN | apply Kd.V_drew)); exact HO0_3.out) hb); have n1_ := Aside0.mk (Kd.N_below (by (with_reducible repeat (first | apply Kd.N_alloc | apply Kd.N_drewN | apply Kd.N_drew)); exact HO195.out) hb); have n2_ := Aside0.mk (blk_below (g := gb192) (o := .cells #[.string a0_0, .bool a0_1, .int .i64 a0_2, .slice A0_3 l0_3.length c0_3] 24 (0, 0)) (by (with_reducible repeat (first | refine blk_drewN ?_ _ | refine blk_drew ?_ | refine blk_alloc ?_ _)); exact BK192.out) hb); have n3_ := Aside0.mk (below_step (by repeat (first | (with_reducible first | exact HB.out | apply below_alloc | apply pw_below_drewN | apply below_drew1 | refine below_set ?_ GE192.out) | exact HB.out)) hb); clear HO0_3; clear HO195; clear BK192; clear HB; have HO0_3 := n0_; have HO195 := n1_; have BK192 := n2_; have HB := n3_; clear n0_ n1_ n2_ n3_; (try clear hb); (try clear hb2); (try clear hk); (try clear hi)))
    have n0_ := Aside0.mk (Kd.V_drew HO0_3.out)
    have n1_ := Aside0.mk (Kd.N_drew HO195.out)
    have n2_ := Aside0.mk (blk_drew BK192.out)
    have n3_ := Aside0.mk (below_drew1 HB.out)
    clear HO0_3
    clear HO195
    clear BK192
    clear HB
    have HO0_3 := n0_
    have HO195 := n1_
    have BK192 := n2_
    have HB := n3_
    clear n0_ n1_ n2_ n3_
    refine start_ (n := 6) (S := fun w' => w'.cell? ⟨gb192, 0, none⟩ = some (.string a0_0) ∧ w'.cell? ⟨gb192, 1, none⟩ = some (.bool a0_1) ∧ w'.cell? ⟨gb192, 2, none⟩ = some (.int .i64 a0_2) ∧ w'.cell? ⟨gb192, 3, none⟩ = some (.slice A0_3 l0_3.length c0_3)) (ds := []) #[false, false, false, false, false, false] (by kernel_rfl) rfl rfl ⟨(blk_cell BK192.out 0).trans rfl, (blk_cell BK192.out 1).trans rfl, (blk_cell BK192.out 2).trans rfl, (blk_cell BK192.out 3).trans rfl⟩ (fun hHeld => ?_)
    generalize w12.drew = w13 at HO0_3 HO195 BK192 HB hHeld ⊢
    refine take_ (i := 0) (N := some 11) (v := ?_) (a' := ?_) #[true, false, false, false, false, false] rfl rfl (by kernel_rfl) (fun _ _ _ h => h) (Or.inl ⟨by rfl, ?_⟩) hHeld ?_ ?_
    rotate_left
    · rintro w' ⟨s0, s1, s2, s3⟩
      go_simp
      with_reducible rfl
    rotate_left
    · simp only [Act.put, List.setIfInBounds_toArray, List.set_cons_zero, List.set_cons_succ, i64_w, i32_w]
      rfl
    refine take_ (i := 2) (N := some 13) (v := ?_) (a' := ?_) #[true, false, true, false, false, false] rfl rfl (by kernel_rfl) (fun _ _ _ h => h) (Or.inl ⟨by rfl, ?_⟩) hHeld ?_ ?_
    rotate_left
    · rintro w' ⟨s0, s1, s2, s3⟩
      go_simp
      with_reducible rfl
    rotate_left
    · simp only [Act.put, List.setIfInBounds_toArray, List.set_cons_zero, List.set_cons_succ, i64_w, i32_w]
      rfl
    refine one_ (i := 1) (N := some 12) #[true, true, true, false, false, false] rfl rfl (by kernel_rfl) (by decide) (fun K hK => ?_)
    refine goes_ Try.func9 (by kernel_rfl) rfl #[.agg #[.string a0_0, .bool a0_1, .int .i64 a0_2, .slice A0_3 l0_3.length c0_3]] (by rfl) rfl rfl (by (try simp only [List.map_toArray, List.map_cons, List.map_nil]); first | done | rfl | (simp only [List.length_drop, List.length_take]; rfl)) ?_
    with_reducible refine (names_Lines.calls k a0_0 a0_1 a0_2 _ _ l0_3 t198 _ ?side1 ?side2 A4.out).mono ?_
    (case side1 => repeat (first | exact (Kd.V_reads' HO0_3.out).2.2 | (with_reducible refine Kd.C_alloc ?_ _) | (with_reducible refine Kd.C_drewN ?_ _) | (with_reducible refine Kd.C_drew ?_)))
    (case side2 => exact (Kd.V_reads' HO0_3.out).2.1)
    rintro e w14 ⟨v199, rfl, ho0, hb⟩
    refine ⟨_, rfl, ?_⟩
    have n0_ := Aside0.mk (Kd.V_elder' (by (with_reducible repeat (first | apply Kd.V_alloc | apply Kd.V_drewN | apply Kd.V_drew)); exact HO0_3.out) (Kd.R_base ho0) hb)
    have n1_ := Aside0.mk (Kd.N_elder' (by (with_reducible repeat (first | apply Kd.N_alloc | apply Kd.N_drewN | apply Kd.N_drew)); exact HO195.out) (Kd.R_base ho0) hb)
    have n2_ := Aside0.mk (Kd.R_lower (Kd.R_newM (M := fun k_ => (w.heap.size ≤ k_)) ho0 (below_size (by repeat (first | (with_reducible first | exact HB.out | apply below_alloc | apply pw_below_drewN | apply below_drew1 | refine below_set ?_ GE192.out) | exact HB.out))) (fun k_ h_ => h_)) (below_size (by repeat (first | (with_reducible first | exact HB.out | apply below_alloc | apply pw_below_drewN | apply below_drew1 | refine below_set ?_ GE192.out) | exact HB.out))))
    have n3_ := Aside0.mk (blk_below (g := gb192) (o := .cells #[.string a0_0, .bool a0_1, .int .i64 a0_2, .slice A0_3 l0_3.length c0_3] 24 (0, 0)) (by (with_reducible repeat (first | refine blk_drewN ?_ _ | refine blk_drew ?_ | refine blk_alloc ?_ _)); exact BK192.out) hb)
    have n4_ := Aside0.mk (below_step (by repeat (first | (with_reducible first | exact HB.out | apply below_alloc | apply pw_below_drewN | apply below_drew1 | refine below_set ?_ GE192.out) | exact HB.out)) hb)
    clear HO0_3
    clear HO195
    clear BK192
    clear HB
    have HO0_3 := n0_
    have HO195 := n1_
    have HO200 := n2_
    have BK192 := n3_
    have HB := n4_
    clear n0_ n1_ n2_ n3_ n4_
    (try clear hb)
    (try clear hb2)
    (try clear hk)
    (try clear hi)
    (try clear ho0)
    refine hK.out _ _ ⟨(blk_cell BK192.out 0).trans rfl, (blk_cell BK192.out 1).trans rfl, (blk_cell BK192.out 2).trans rfl, (blk_cell BK192.out 3).trans rfl⟩ (fun hHeld => ?_)
    clear hK K
    refine norm_ (a' := ?_) ?_ ?_
    rotate_left
    · show Act.put _ (some 12) _ = _
      simp only [Act.put, List.setIfInBounds_toArray, List.set_cons_zero, List.set_cons_succ, i64_w, i32_w]
      rfl
    refine one_ (i := 3) (N := some 14) #[true, true, true, true, false, false] rfl rfl (by kernel_rfl) (by decide) (fun K hK => ?_)
    refine goes_ Try.func10 (by kernel_rfl) rfl #[.agg #[.string a0_0, .bool a0_1, .int .i64 a0_2, .slice A0_3 l0_3.length c0_3]] (by rfl) rfl rfl (by (try simp only [List.map_toArray, List.map_cons, List.map_nil]); first | done | rfl | (simp only [List.length_drop, List.length_take]; rfl)) ?_
    with_reducible refine (chicaneref14_Lines.calls k a0_0 a0_1 a0_2 _ _ l0_3 t201 _ ?side1 ?side2 A5.out).mono ?_
    (case side1 => repeat (first | exact (Kd.V_reads' HO0_3.out).2.2 | (with_reducible refine Kd.C_alloc ?_ _) | (with_reducible refine Kd.C_drewN ?_ _) | (with_reducible refine Kd.C_drew ?_)))
    (case side2 => exact (Kd.V_reads' HO0_3.out).2.1)
    rintro e w15 ⟨v202, rfl, ho0, hb⟩
    refine ⟨_, rfl, ?_⟩
    have n0_ := Aside0.mk (Kd.V_elder' (by (with_reducible repeat (first | apply Kd.V_alloc | apply Kd.V_drewN | apply Kd.V_drew)); exact HO0_3.out) (Kd.R_base ho0) hb)
    have n1_ := Aside0.mk (Kd.N_elder' (by (with_reducible repeat (first | apply Kd.N_alloc | apply Kd.N_drewN | apply Kd.N_drew)); exact HO195.out) (Kd.R_base ho0) hb)
    have n2_ := Aside0.mk (Kd.R_elder' (by (with_reducible repeat (first | apply Kd.R_alloc | apply Kd.R_drewN | apply Kd.R_drew)); exact HO200.out) (Kd.R_base ho0) hb)
    have n3_ := Aside0.mk (Kd.R_lower (Kd.R_new' (Kd.R_newM (M := fun k_ => (w.heap.size ≤ k_)) ho0 (below_size (by repeat (first | (with_reducible first | exact HB.out | apply below_alloc | apply pw_below_drewN | apply below_drew1 | refine below_set ?_ GE192.out) | exact HB.out))) (fun k_ h_ => h_)) (Kd.R_lt (by (with_reducible repeat (first | apply Kd.R_alloc | apply Kd.R_drewN | apply Kd.R_drew)); exact HO200.out))) (below_size (by repeat (first | (with_reducible first | exact HB.out | apply below_alloc | apply pw_below_drewN | apply below_drew1 | refine below_set ?_ GE192.out) | exact HB.out))))
    have n4_ := Aside0.mk (blk_below (g := gb192) (o := .cells #[.string a0_0, .bool a0_1, .int .i64 a0_2, .slice A0_3 l0_3.length c0_3] 24 (0, 0)) (by (with_reducible repeat (first | refine blk_drewN ?_ _ | refine blk_drew ?_ | refine blk_alloc ?_ _)); exact BK192.out) hb)
    have n5_ := Aside0.mk (below_step (by repeat (first | (with_reducible first | exact HB.out | apply below_alloc | apply pw_below_drewN | apply below_drew1 | refine below_set ?_ GE192.out) | exact HB.out)) hb)
    clear HO0_3
    clear HO195
    clear HO200
    clear BK192
    clear HB
    have HO0_3 := n0_
    have HO195 := n1_
    have HO200 := n2_
    have HO203 := n3_
    have BK192 := n4_
    have HB := n5_
    clear n0_ n1_ n2_ n3_ n4_ n5_
    (try clear hb)
    (try clear hb2)
    (try clear hk)
    (try clear hi)
    (try clear ho0)
    refine hK.out _ _ ⟨(blk_cell BK192.out 0).trans rfl, (blk_cell BK192.out 1).trans rfl, (blk_cell BK192.out 2).trans rfl, (blk_cell BK192.out 3).trans rfl⟩ (fun hHeld => ?_)
    clear hK K
    refine norm_ (a' := ?_) ?_ ?_
    rotate_left
    · show Act.put _ (some 14) _ = _
      simp only [Act.put, List.setIfInBounds_toArray, List.set_cons_zero, List.set_cons_succ, i64_w, i32_w]
      rfl
    refine pure_ (i := 4) (N := some 3) (v := ?_) (a' := ?_) #[true, true, true, true, true, false] rfl rfl (by kernel_rfl) (fun _ _ _ h => h) (Or.inl ⟨by rfl, ?_⟩) ?_ ?_
    rotate_left
    · intro w'
      go_simp
      with_reducible rfl
    rotate_left
    · simp only [Act.put, List.setIfInBounds_toArray, List.set_cons_zero, List.set_cons_succ, i64_w, i32_w]
      rfl
    refine pure_ (i := 5) (N := some 4) (v := ?_) (a' := ?_) #[true, true, true, true, true, true] rfl rfl (by kernel_rfl) (fun _ _ _ h => h) (Or.inl ⟨by rfl, ?_⟩) ?_ ?_
    rotate_left
    · intro w'
      go_simp
      with_reducible rfl
    rotate_left
    · simp only [Act.put, List.setIfInBounds_toArray, List.set_cons_zero, List.set_cons_succ, i64_w, i32_w]
      rfl
    refine done_ (by kernel_rfl) ?_
    go_upto_region 4 with (fail)
    go_cut [26] (fun v26 wc => ∃ (kq : Nat) (x26_5 : Bool), v26 = .bool x26_5 ∧ Aside0 (chicanelaw14_NamesChecks.j0 kq t198 t201 x26_5 = some r) ∧ Aside0 (kq ≤ k) ∧ Aside0 (Kd.R Kd.string 9 wc w.heap.size (fun k_ => (w.heap.size ≤ k_) ∧ some k_ ≠ (v202 : Value).ownBlock) v199 t198) ∧ Aside0 (Kd.R Kd.string 9 wc w.heap.size (fun k_ => (w.heap.size ≤ k_) ∧ some k_ ≠ (v199 : Value).ownBlock) v202 t201) ∧ Aside0 (Kd.V k39 39 wc w.heap.size (fun k_ => (P0_3_ k_ ∨ w.heap.size ≤ k_) ∧ some k_ ≠ (v199 : Value).ownBlock ∧ some k_ ≠ (v202 : Value).ownBlock ∧ k_ ≠ gb192) (.slice A0_3 l0_3.length c0_3) l0_3) ∧ Aside0 (wc.heap[gb192]? = some (.cells #[.string a0_0, .bool a0_1, .int .i64 a0_2, (.slice A0_3 l0_3.length c0_3)] 24 (0, 0))) ∧ Aside0 (Below w.heap.size w wc))
    case first =>
      have H := HC6.out
      clear HC6
      by_cases c16 : (t198.length : Int) = (t201.length : Int)
      · rw [if_pos c16] at H
        have c16b0 : ((t198.length : Int) == (t201.length : Int)) = true := beq_iff_eq.mpr c16
        have c16b1 : ((t198.length : Int) != (t201.length : Int)) = false := bne_eq_false_iff_eq.mpr c16
        have c16b2 : (t198.length == t201.length) = true := by first | simpa using c16 | (simp at c16 ⊢; omega)
        clear c16
        (first | rw [c16b0] | (simp only [i64_w, i32_w]; rw [c16b0]) | skip)
        replace H := Option.bind_eq_some_iff.mp H
        obtain ⟨t204, A170, H⟩ := H
        replace H : ((chicaneref14_Check.f k a0_0 a0_1 a0_2 l0_3).bind fun t205 => (chicanelaw14_NamesChecks.j0 k t198 t201 (t204 != t205))) = some r := H
        have A17 := Aside0.mk A170
        clear A170
        replace H := Option.bind_eq_some_iff.mp H
        obtain ⟨t205, A180, H⟩ := H
        replace H : (chicanelaw14_NamesChecks.j0 k t198 t201 (t204 != t205)) = some r := H
        have A18 := Aside0.mk A180
        clear A180
        have H' := Aside0.mk H
        clear H
        try go_wp2
        have n0_ := Aside0.mk (Kd.V_drew HO0_3.out)
        have n1_ := Aside0.mk (Kd.N_drew HO195.out)
        have n2_ := Aside0.mk (Kd.R_drew HO200.out)
        have n3_ := Aside0.mk (Kd.R_drew HO203.out)
        have n4_ := Aside0.mk (blk_drew BK192.out)
        have n5_ := Aside0.mk (below_drew1 HB.out)
        clear HO0_3
        clear HO195
        clear HO200
        clear HO203
        clear BK192
        clear HB
        have HO0_3 := n0_
        have HO195 := n1_
        have HO200 := n2_
        have HO203 := n3_
        have BK192 := n4_
        have HB := n5_
        clear n0_ n1_ n2_ n3_ n4_ n5_
        obtain ⟨Ao20, co20, eo20⟩ := Kd.R_slice HO200.out
        (first | subst eo20 | (injection eo20 with f1_ f2_ f3_; have f4_ := f1_.symm; have f5_ := f3_.symm; clear f1_ f2_ f3_; subst f4_; subst f5_))
        obtain ⟨Ao21, co21, eo21⟩ := Kd.R_slice HO203.out
        (first | subst eo21 | (injection eo21 with f1_ f2_ f3_; have f4_ := f1_.symm; have f5_ := f3_.symm; clear f1_ f2_ f3_; subst f4_; subst f5_))
        refine start_ (n := 12) (S := fun w' => w'.cell? ⟨gb192, 0, none⟩ = some (.string a0_0) ∧ w'.cell? ⟨gb192, 1, none⟩ = some (.bool a0_1) ∧ w'.cell? ⟨gb192, 2, none⟩ = some (.int .i64 a0_2) ∧ w'.cell? ⟨gb192, 3, none⟩ = some (.slice A0_3 l0_3.length c0_3)) (ds := []) #[false, false, false, false, false, false, false, false, false, false, false, false] (by kernel_rfl) rfl rfl ⟨(blk_cell BK192.out 0).trans rfl, (blk_cell BK192.out 1).trans rfl, (blk_cell BK192.out 2).trans rfl, (blk_cell BK192.out 3).trans rfl⟩ (fun hHeld => ?_); refine with_tabW chicanelaw14_NamesChecks.tab4 chicanelaw14_NamesChecks.bits4 (fun HT_ HW_ => ?_)
        generalize w15.drew = w19 at HO0_3 HO195 HO200 HO203 BK192 HB hHeld ⊢
        refine pure_ (i := 0) (N := some 15) (v := ?_) (a' := ?_) #[true, false, false, false, false, false, false, false, false, false, false, false] rfl rfl (any_of HT_.out (by kernel_rfl)) (fun _ _ _ h => h) (Or.inl ⟨by rfl, ?_⟩) ?_ ?_
        rotate_left
        · intro w'
          go_simp
          with_reducible rfl
        rotate_left
        · simp only [Act.put, List.setIfInBounds_toArray, List.set_cons_zero, List.set_cons_succ, i64_w, i32_w]
          rfl
        refine pure_ (i := 1) (N := some 16) (v := ?_) (a' := ?_) #[true, true, false, false, false, false, false, false, false, false, false, false] rfl rfl (any_of HT_.out (by kernel_rfl)) (fun _ _ _ h => h) (Or.inl ⟨by rfl, ?_⟩) ?_ ?_
        rotate_left
        · intro w'
          go_simp
          with_reducible rfl
        rotate_left
        · simp only [Act.put, List.setIfInBounds_toArray, List.set_cons_zero, List.set_cons_succ, i64_w, i32_w]
          rfl
        refine pure_ (i := 2) (N := some 17) (v := ?_) (a' := ?_) #[true, true, true, false, false, false, false, false, false, false, false, false] rfl rfl (any_of HT_.out (by kernel_rfl)) (fun _ _ _ h => h) (Or.inl ⟨by rfl, ?_⟩) ?_ ?_
        rotate_left
        · intro w'
          go_simp
          with_reducible rfl
        rotate_left
        · simp only [Act.put, List.setIfInBounds_toArray, List.set_cons_zero, List.set_cons_succ, i64_w, i32_w]
          rfl
        refine pure_ (i := 3) (N := some 18) (v := ?_) (a' := ?_) #[true, true, true, true, false, false, false, false, false, false, false, false] rfl rfl (any_of HT_.out (by kernel_rfl)) (fun _ _ _ h => h) (Or.inl ⟨by rfl, ?_⟩) ?_ ?_
        rotate_left
        · intro w'
          go_simp
          with_reducible rfl
        rotate_left
        · simp only [Act.put, List.setIfInBounds_toArray, List.set_cons_zero, List.set_cons_succ, i64_w, i32_w]
          rfl
        refine pure_ (i := 4) (N := some 19) (v := ?_) (a' := ?_) #[true, true, true, true, true, false, false, false, false, false, false, false] rfl rfl (any_of HT_.out (by kernel_rfl)) (fun _ _ _ h => h) (Or.inl ⟨by rfl, ?_⟩) ?_ ?_
        rotate_left
        · intro w'
          go_simp
          with_reducible rfl
        rotate_left
        · simp only [Act.put, List.setIfInBounds_toArray, List.set_cons_zero, List.set_cons_succ, i64_w, i32_w]
          rfl
        refine pure_ (i := 5) (N := some 20) (v := ?_) (a' := ?_) #[true, true, true, true, true, true, false, false, false, false, false, false] rfl rfl (any_of HT_.out (by kernel_rfl)) (fun _ _ _ h => h) (Or.inl ⟨by rfl, ?_⟩) ?_ ?_
        rotate_left
        · intro w'
          go_simp
          with_reducible rfl
        rotate_left
        · simp only [Act.put, List.setIfInBounds_toArray, List.set_cons_zero, List.set_cons_succ, i64_w, i32_w]
          rfl
        refine take_ (i := 6) (N := some 21) (v := ?_) (a' := ?_) #[true, true, true, true, true, true, true, false, false, false, false, false] rfl rfl (take_ofW HT_.out HW_.out (by kernel_rfl)) (fun _ _ _ h => h) (Or.inl ⟨by rfl, ?_⟩) hHeld ?_ ?_
        rotate_left
        · rintro w' ⟨s0, s1, s2, s3⟩
          go_simp
          with_reducible rfl
        rotate_left
        · simp only [Act.put, List.setIfInBounds_toArray, List.set_cons_zero, List.set_cons_succ, i64_w, i32_w]
          rfl
        refine take_ (i := 8) (N := some 23) (v := ?_) (a' := ?_) #[true, true, true, true, true, true, true, false, true, false, false, false] rfl rfl (take_ofW HT_.out HW_.out (by kernel_rfl)) (fun _ _ _ h => h) (Or.inl ⟨by rfl, ?_⟩) hHeld ?_ ?_
        rotate_left
        · rintro w' ⟨s0, s1, s2, s3⟩
          go_simp
          with_reducible rfl
        rotate_left
        · simp only [Act.put, List.setIfInBounds_toArray, List.set_cons_zero, List.set_cons_succ, i64_w, i32_w]
          rfl
        refine one_ (i := 7) (N := some 22) #[true, true, true, true, true, true, true, true, true, false, false, false] rfl rfl (one_of HT_.out (by kernel_rfl)) (by decide) (fun K hK => ?_)
        refine goes_ Try.func11 (by kernel_rfl) rfl #[.agg #[.string a0_0, .bool a0_1, .int .i64 a0_2, .slice A0_3 l0_3.length c0_3]] (by rfl) rfl rfl (by (try simp only [List.map_toArray, List.map_cons, List.map_nil]); first | done | rfl | (simp only [List.length_drop, List.length_take]; rfl)) ?_
        with_reducible refine (names_Check.calls k a0_0 a0_1 a0_2 _ _ l0_3 t204 _ ?side1 ?side2 A17.out).mono ?_
        (case side1 => repeat (first | exact (Kd.V_reads' HO0_3.out).2.2 | (with_reducible refine Kd.C_alloc ?_ _) | (with_reducible refine Kd.C_drewN ?_ _) | (with_reducible refine Kd.C_drew ?_)))
        (case side2 => exact (Kd.V_reads' HO0_3.out).2.1)
        rintro e w22 ⟨rfl, hb⟩
        refine ⟨_, rfl, ?_⟩
        have n0_ := Aside0.mk (Kd.V_below (by (with_reducible repeat (first | apply Kd.V_alloc | apply Kd.V_drewN | apply Kd.V_drew)); exact HO0_3.out) hb)
        have n1_ := Aside0.mk (Kd.N_below (by (with_reducible repeat (first | apply Kd.N_alloc | apply Kd.N_drewN | apply Kd.N_drew)); exact HO195.out) hb)
        have n2_ := Aside0.mk (Kd.R_below (by (with_reducible repeat (first | apply Kd.R_alloc | apply Kd.R_drewN | apply Kd.R_drew)); exact HO200.out) hb)
        have n3_ := Aside0.mk (Kd.R_below (by (with_reducible repeat (first | apply Kd.R_alloc | apply Kd.R_drewN | apply Kd.R_drew)); exact HO203.out) hb)
        have n4_ := Aside0.mk (blk_below (g := gb192) (o := .cells #[.string a0_0, .bool a0_1, .int .i64 a0_2, .slice A0_3 l0_3.length c0_3] 24 (0, 0)) (by (with_reducible repeat (first | refine blk_drewN ?_ _ | refine blk_drew ?_ | refine blk_alloc ?_ _)); exact BK192.out) hb)
        have n5_ := Aside0.mk (below_step (by repeat (first | (with_reducible first | exact HB.out | apply below_alloc | apply pw_below_drewN | apply below_drew1 | refine below_set ?_ GE192.out) | exact HB.out)) hb)
        clear HO0_3
        clear HO195
        clear HO200
        clear HO203
        clear BK192
        clear HB
        have HO0_3 := n0_
        have HO195 := n1_
        have HO200 := n2_
        have HO203 := n3_
        have BK192 := n4_
        have HB := n5_
        clear n0_ n1_ n2_ n3_ n4_ n5_
        (try clear hb)
        (try clear hb2)
        (try clear hk)
        (try clear hi)
        refine hK.out _ _ ⟨(blk_cell BK192.out 0).trans rfl, (blk_cell BK192.out 1).trans rfl, (blk_cell BK192.out 2).trans rfl, (blk_cell BK192.out 3).trans rfl⟩ (fun hHeld => ?_)
        clear hK K
        refine norm_ (a' := ?_) ?_ ?_
        rotate_left
        · show Act.put _ (some 22) _ = _
          simp only [Act.put, List.setIfInBounds_toArray, List.set_cons_zero, List.set_cons_succ, i64_w, i32_w]
          rfl
        refine one_ (i := 9) (N := some 24) #[true, true, true, true, true, true, true, true, true, true, false, false] rfl rfl (one_of HT_.out (by kernel_rfl)) (by decide) (fun K hK => ?_)
        refine goes_ Try.func12 (by kernel_rfl) rfl #[.agg #[.string a0_0, .bool a0_1, .int .i64 a0_2, .slice A0_3 l0_3.length c0_3]] (by rfl) rfl rfl (by (try simp only [List.map_toArray, List.map_cons, List.map_nil]); first | done | rfl | (simp only [List.length_drop, List.length_take]; rfl)) ?_
        with_reducible refine (chicaneref14_Check.calls k a0_0 a0_1 a0_2 _ _ l0_3 t205 _ ?side1 ?side2 A18.out).mono ?_
        (case side1 => repeat (first | exact (Kd.V_reads' HO0_3.out).2.2 | (with_reducible refine Kd.C_alloc ?_ _) | (with_reducible refine Kd.C_drewN ?_ _) | (with_reducible refine Kd.C_drew ?_)))
        (case side2 => exact (Kd.V_reads' HO0_3.out).2.1)
        rintro e w23 ⟨rfl, hb⟩
        refine ⟨_, rfl, ?_⟩
        have n0_ := Aside0.mk (Kd.V_below (by (with_reducible repeat (first | apply Kd.V_alloc | apply Kd.V_drewN | apply Kd.V_drew)); exact HO0_3.out) hb)
        have n1_ := Aside0.mk (Kd.N_below (by (with_reducible repeat (first | apply Kd.N_alloc | apply Kd.N_drewN | apply Kd.N_drew)); exact HO195.out) hb)
        have n2_ := Aside0.mk (Kd.R_below (by (with_reducible repeat (first | apply Kd.R_alloc | apply Kd.R_drewN | apply Kd.R_drew)); exact HO200.out) hb)
        have n3_ := Aside0.mk (Kd.R_below (by (with_reducible repeat (first | apply Kd.R_alloc | apply Kd.R_drewN | apply Kd.R_drew)); exact HO203.out) hb)
        have n4_ := Aside0.mk (blk_below (g := gb192) (o := .cells #[.string a0_0, .bool a0_1, .int .i64 a0_2, .slice A0_3 l0_3.length c0_3] 24 (0, 0)) (by (with_reducible repeat (first | refine blk_drewN ?_ _ | refine blk_drew ?_ | refine blk_alloc ?_ _)); exact BK192.out) hb)
        have n5_ := Aside0.mk (below_step (by repeat (first | (with_reducible first | exact HB.out | apply below_alloc | apply pw_below_drewN | apply below_drew1 | refine below_set ?_ GE192.out) | exact HB.out)) hb)
        clear HO0_3
        clear HO195
        clear HO200
        clear HO203
        clear BK192
        clear HB
        have HO0_3 := n0_
        have HO195 := n1_
        have HO200 := n2_
        have HO203 := n3_
        have BK192 := n4_
        have HB := n5_
        clear n0_ n1_ n2_ n3_ n4_ n5_
        (try clear hb)
        (try clear hb2)
        (try clear hk)
        (try clear hi)
        refine hK.out _ _ ⟨(blk_cell BK192.out 0).trans rfl, (blk_cell BK192.out 1).trans rfl, (blk_cell BK192.out 2).trans rfl, (blk_cell BK192.out 3).trans rfl⟩ (fun hHeld => ?_)
        clear hK K
        refine norm_ (a' := ?_) ?_ ?_
        rotate_left
        · show Act.put _ (some 24) _ = _
          simp only [Act.put, List.setIfInBounds_toArray, List.set_cons_zero, List.set_cons_succ, i64_w, i32_w]
          rfl
        refine pure_ (i := 10) (N := some 25) (v := ?_) (a' := ?_) #[true, true, true, true, true, true, true, true, true, true, true, false] rfl rfl (any_of HT_.out (by kernel_rfl)) (fun _ _ _ h => h) (Or.inl ⟨by rfl, ?_⟩) ?_ ?_
        rotate_left
        · intro w'
          go_simp
          with_reducible rfl
        rotate_left
        · simp only [Act.put, List.setIfInBounds_toArray, List.set_cons_zero, List.set_cons_succ, i64_w, i32_w]
          rfl
        refine pure_ (i := 11) (N := some 26) (v := ?_) (a' := ?_) #[true, true, true, true, true, true, true, true, true, true, true, true] rfl rfl (any_of HT_.out (by kernel_rfl)) (fun _ _ _ h => h) (Or.inl ⟨by rfl, ?_⟩) ?_ ?_
        rotate_left
        · intro w'
          go_simp
          with_reducible rfl
        rotate_left
        · simp only [Act.put, List.setIfInBounds_toArray, List.set_cons_zero, List.set_cons_succ, i64_w, i32_w]
          rfl
        refine done_ (done_of HT_.out (by kernel_rfl)) ?_
        try go_wp2
        go_meet
        case rel => exact ⟨_, ((t204 != t205)), (by first | rfl | (simp; done) | (simp [*]; done)), H', ⟨by first | omega | exact Nat.le_refl _⟩, ⟨by (with_reducible repeat (first | apply Kd.R_alloc | apply Kd.R_drewN | apply Kd.R_drew)); exact Kd.R_mono HO200.out (fun _ hk => ⟨hk.1.1, hk.2⟩)⟩, ⟨by (with_reducible repeat (first | apply Kd.R_alloc | apply Kd.R_drewN | apply Kd.R_drew)); exact Kd.R_mono HO203.out (fun _ hk => ⟨hk.1.1, hk.2⟩)⟩, ⟨by (with_reducible repeat (first | apply Kd.V_alloc | apply Kd.V_drewN | apply Kd.V_drew)); exact Kd.V_mono HO0_3.out (fun _ hk => ⟨hk.1.1.1.1, ⟨hk.1.2, ⟨hk.2, hk.1.1.1.2⟩⟩⟩)⟩, ⟨by (with_reducible repeat (first | refine blk_drewN ?_ _ | refine blk_drew ?_ | refine blk_alloc ?_ _)); exact BK192.out⟩, ⟨by repeat (first | (with_reducible first | exact HB.out | apply below_alloc | apply pw_below_drewN | apply below_drew1 | refine below_set ?_ GE192.out) | exact HB.out)⟩⟩
      · rw [if_neg c16] at H
        have c16b0 : ((t198.length : Int) == (t201.length : Int)) = false := beq_eq_false_iff_ne.mpr c16
        have c16b1 : ((t198.length : Int) != (t201.length : Int)) = true := bne_iff_ne.mpr c16
        have c16b2 : (t198.length == t201.length) = false := by first | simpa using c16 | (simp at c16 ⊢; omega)
        (first | rw [c16b0] | (simp only [i64_w, i32_w]; rw [c16b0]) | skip)
        have H' := Aside0.mk H
        clear H
        try go_wp2
        have n0_ := Aside0.mk (Kd.V_drew HO0_3.out)
        have n1_ := Aside0.mk (Kd.N_drew HO195.out)
        have n2_ := Aside0.mk (Kd.R_drew HO200.out)
        have n3_ := Aside0.mk (Kd.R_drew HO203.out)
        have n4_ := Aside0.mk (blk_drew BK192.out)
        have n5_ := Aside0.mk (below_drew1 HB.out)
        clear HO0_3
        clear HO195
        clear HO200
        clear HO203
        clear BK192
        clear HB
        have HO0_3 := n0_
        have HO195 := n1_
        have HO200 := n2_
        have HO203 := n3_
        have BK192 := n4_
        have HB := n5_
        clear n0_ n1_ n2_ n3_ n4_ n5_
        obtain ⟨Ao25, co25, eo25⟩ := Kd.R_slice HO200.out
        (first | subst eo25 | (injection eo25 with f1_ f2_ f3_; have f4_ := f1_.symm; have f5_ := f3_.symm; clear f1_ f2_ f3_; subst f4_; subst f5_))
        obtain ⟨Ao26, co26, eo26⟩ := Kd.R_slice HO203.out
        (first | subst eo26 | (injection eo26 with f1_ f2_ f3_; have f4_ := f1_.symm; have f5_ := f3_.symm; clear f1_ f2_ f3_; subst f4_; subst f5_))
        refine start_ (n := 12) (S := fun w' => True) (ds := []) #[false, false, false, false, false, false, false, false, false, false, false, false] (by kernel_rfl) rfl rfl trivial (fun hHeld => ?_); refine with_tabW chicanelaw14_NamesChecks.tab4 chicanelaw14_NamesChecks.bits4 (fun HT_ HW_ => ?_)
        generalize w15.drew = w24 at HO0_3 HO195 HO200 HO203 BK192 HB hHeld ⊢
        refine pure_ (i := 0) (N := some 15) (v := ?_) (a' := ?_) #[true, false, false, false, false, false, false, false, false, false, false, false] rfl rfl (any_of HT_.out (by kernel_rfl)) (fun _ _ _ h => h) (Or.inl ⟨by rfl, ?_⟩) ?_ ?_
        rotate_left
        · intro w'
          go_simp
          with_reducible rfl
        rotate_left
        · simp only [Act.put, List.setIfInBounds_toArray, List.set_cons_zero, List.set_cons_succ, i64_w, i32_w]
          rfl
        refine pure_ (i := 1) (N := some 16) (v := ?_) (a' := ?_) #[true, true, false, false, false, false, false, false, false, false, false, false] rfl rfl (any_of HT_.out (by kernel_rfl)) (fun _ _ _ h => h) (Or.inl ⟨by rfl, ?_⟩) ?_ ?_
        rotate_left
        · intro w'
          go_simp
          with_reducible rfl
        rotate_left
        · simp only [Act.put, List.setIfInBounds_toArray, List.set_cons_zero, List.set_cons_succ, i64_w, i32_w]
          rfl
        refine pure_ (i := 2) (N := some 17) (v := ?_) (a' := ?_) #[true, true, true, false, false, false, false, false, false, false, false, false] rfl rfl (any_of HT_.out (by kernel_rfl)) (fun _ _ _ h => h) (Or.inl ⟨by rfl, ?_⟩) ?_ ?_
        rotate_left
        · intro w'
          go_simp
          with_reducible rfl
        rotate_left
        · simp only [Act.put, List.setIfInBounds_toArray, List.set_cons_zero, List.set_cons_succ, i64_w, i32_w]
          rfl
        refine pure_ (i := 3) (N := some 18) (v := ?_) (a' := ?_) #[true, true, true, true, false, false, false, false, false, false, false, false] rfl rfl (any_of HT_.out (by kernel_rfl)) (fun _ _ _ h => h) (Or.inl ⟨by rfl, ?_⟩) ?_ ?_
        rotate_left
        · intro w'
          go_simp
          with_reducible rfl
        rotate_left
        · simp only [Act.put, List.setIfInBounds_toArray, List.set_cons_zero, List.set_cons_succ, i64_w, i32_w]
          rfl
        refine pure_ (i := 4) (N := some 19) (v := ?_) (a' := ?_) #[true, true, true, true, true, false, false, false, false, false, false, false] rfl rfl (any_of HT_.out (by kernel_rfl)) (fun _ _ _ h => h) (Or.inl ⟨by rfl, ?_⟩) ?_ ?_
        rotate_left
        · intro w'
          go_simp
          with_reducible rfl
        rotate_left
        · simp only [Act.put, List.setIfInBounds_toArray, List.set_cons_zero, List.set_cons_succ, i64_w, i32_w]
          rfl
        refine pure_ (i := 5) (N := some 20) (v := ?_) (a' := ?_) #[true, true, true, true, true, true, false, false, false, false, false, false] rfl rfl (any_of HT_.out (by kernel_rfl)) (fun _ _ _ h => h) (Or.inl ⟨by rfl, ?_⟩) ?_ ?_
        rotate_left
        · intro w'
          go_simp
          with_reducible rfl
        rotate_left
        · simp only [Act.put, List.setIfInBounds_toArray, List.set_cons_zero, List.set_cons_succ, i64_w, i32_w]
          rfl
        refine pure_ (i := 6) (N := some 21) (v := undef) (a' := ?_) #[true, true, true, true, true, true, true, false, false, false, false, false] rfl rfl (any_of HT_.out (by kernel_rfl)) (fun _ _ _ h => h) (Or.inr ⟨by rfl, rfl⟩) ?_ ?_
        rotate_left
        · simp only [Act.put, List.setIfInBounds_toArray, List.set_cons_zero, List.set_cons_succ, i64_w, i32_w]
          rfl
        refine pure_ (i := 7) (N := some 22) (v := undef) (a' := ?_) #[true, true, true, true, true, true, true, true, false, false, false, false] rfl rfl (any_of HT_.out (by kernel_rfl)) (fun _ _ _ h => h) (Or.inr ⟨by rfl, rfl⟩) ?_ ?_
        rotate_left
        · simp only [Act.put, List.setIfInBounds_toArray, List.set_cons_zero, List.set_cons_succ, i64_w, i32_w]
          rfl
        refine pure_ (i := 8) (N := some 23) (v := undef) (a' := ?_) #[true, true, true, true, true, true, true, true, true, false, false, false] rfl rfl (any_of HT_.out (by kernel_rfl)) (fun _ _ _ h => h) (Or.inr ⟨by rfl, rfl⟩) ?_ ?_
        rotate_left
        · simp only [Act.put, List.setIfInBounds_toArray, List.set_cons_zero, List.set_cons_succ, i64_w, i32_w]
          rfl
        refine pure_ (i := 9) (N := some 24) (v := undef) (a' := ?_) #[true, true, true, true, true, true, true, true, true, true, false, false] rfl rfl (any_of HT_.out (by kernel_rfl)) (fun _ _ _ h => h) (Or.inr ⟨by rfl, rfl⟩) ?_ ?_
        rotate_left
        · simp only [Act.put, List.setIfInBounds_toArray, List.set_cons_zero, List.set_cons_succ, i64_w, i32_w]
          rfl
        refine pure_ (i := 10) (N := some 25) (v := undef) (a' := ?_) #[true, true, true, true, true, true, true, true, true, true, true, false] rfl rfl (any_of HT_.out (by kernel_rfl)) (fun _ _ _ h => h) (Or.inr ⟨by rfl, rfl⟩) ?_ ?_
        rotate_left
        · simp only [Act.put, List.setIfInBounds_toArray, List.set_cons_zero, List.set_cons_succ, i64_w, i32_w]
          rfl
        refine pure_ (i := 11) (N := some 26) (v := ?_) (a' := ?_) #[true, true, true, true, true, true, true, true, true, true, true, true] rfl rfl (any_of HT_.out (by kernel_rfl)) (fun _ _ _ h => h) (Or.inl ⟨by rfl, ?_⟩) ?_ ?_
        rotate_left
        · intro w'
          go_simp
          with_reducible rfl
        rotate_left
        · simp only [Act.put, List.setIfInBounds_toArray, List.set_cons_zero, List.set_cons_succ, i64_w, i32_w]
          rfl
        refine done_ (done_of HT_.out (by kernel_rfl)) ?_
        try go_wp2
        go_meet
        case rel => exact ⟨_, (true), (by first | rfl | (simp; done) | (simp [*]; done)), H', ⟨by first | omega | exact Nat.le_refl _⟩, ⟨by (with_reducible repeat (first | apply Kd.R_alloc | apply Kd.R_drewN | apply Kd.R_drew)); exact Kd.R_mono HO200.out (fun _ hk => ⟨hk.1.1, hk.2⟩)⟩, ⟨by (with_reducible repeat (first | apply Kd.R_alloc | apply Kd.R_drewN | apply Kd.R_drew)); exact Kd.R_mono HO203.out (fun _ hk => ⟨hk.1.1, hk.2⟩)⟩, ⟨by (with_reducible repeat (first | apply Kd.V_alloc | apply Kd.V_drewN | apply Kd.V_drew)); exact Kd.V_mono HO0_3.out (fun _ hk => ⟨hk.1.1.1.1, ⟨hk.1.2, ⟨hk.2, hk.1.1.1.2⟩⟩⟩)⟩, ⟨by (with_reducible repeat (first | refine blk_drewN ?_ _ | refine blk_drew ?_ | refine blk_alloc ?_ _)); exact BK192.out⟩, ⟨by repeat (first | (with_reducible first | exact HB.out | apply below_alloc | apply pw_below_drewN | apply below_drew1 | refine below_set ?_ GE192.out) | exact HB.out)⟩⟩
    case rest =>
      clear HC6
      try clear c1
      try clear p2
      try clear c3
      try clear c4
      try clear c7
      try clear c9
      try clear c10
      try clear c11
      try clear c12
      try clear c16
      try clear c16b0
      try clear c16b1
      try clear c16b2
      try clear c16b3
      try clear hcz8_0
      try clear hcz8_1
      try clear hcz8_2
      try clear hcz8_3
      try clear hfz8_0
      try clear hfz8_1
      try clear hfz8_2
      try clear hfz8_3
      obtain ⟨kq, x26_5, rfl, HA, HJ5, HO_3, HO_4, HO_193003, BK192, HB⟩ := hcut
      cases kq with
      | zero => exact absurd HA.out (by simp [chicanelaw14_NamesChecks.j0])
      | succ kj5 =>
        have H := HA.out
        clear HA
        simp only [chicanelaw14_NamesChecks.j0] at H
        by_cases c27 : x26_5 = true
        · subst c27
          have H1 : (some false) = some r := by rw [if_pos rfl] at H; exact H
          clear H
          have H := H1
          clear H1
          obtain rfl := Option.some.inj H
          go_wp2
          go_ret
          exact ⟨by first | rfl | (simp [errW_none, errW_some] <;> rfl) | (simp [*, errW_none, errW_some] <;> rfl), by repeat (first | (with_reducible first | exact HB.out | apply below_alloc | apply pw_below_drewN | apply below_drew1 | refine below_set ?_ GE192.out) | exact HB.out)⟩
        · replace c27 := Bool.eq_false_iff.mpr c27
          subst c27
          have H1 : (chicanelaw14_NamesChecks.l0 kj5 t198 t201 (t198.length : Int) 0) = some r := by rw [if_neg (show ¬ (false = true) by decide)] at H; exact H
          clear H
          have H := H1
          clear H1
          have H' := Aside0.mk H
          clear H
          obtain ⟨Ao28, co28, eo28⟩ := Kd.R_slice HO_3.out
          subst eo28
          go_wp2
          go_loopg [29] kj5 (fun kq v29 w' => ∃ (x29_2 : Int), v29 = .int .i64 x29_2 ∧ Aside0 (chicanelaw14_NamesChecks.l0 kq t198 t201 (t198.length : Int) x29_2 = some r) ∧ Aside0 (kq ≤ kj5) ∧ Aside0 (Kd.R Kd.string 9 w' w.heap.size (fun k_ => (w.heap.size ≤ k_) ∧ some k_ ≠ (v202 : Value).ownBlock) (.slice Ao28 t198.length co28) t198) ∧ Aside0 (Kd.R Kd.string 9 w' w.heap.size (fun k_ => (w.heap.size ≤ k_) ∧ some k_ ≠ ((.slice Ao28 t198.length co28) : Value).ownBlock) v202 t201) ∧ Aside0 (Kd.V k39 39 w' w.heap.size (fun k_ => (P0_3_ k_ ∨ w.heap.size ≤ k_) ∧ some k_ ≠ ((.slice Ao28 t198.length co28) : Value).ownBlock ∧ some k_ ≠ (v202 : Value).ownBlock ∧ k_ ≠ gb192) (.slice A0_3 l0_3.length c0_3) l0_3) ∧ Aside0 (w'.heap[gb192]? = some (.cells #[.string a0_0, .bool a0_1, .int .i64 a0_2, (.slice A0_3 l0_3.length c0_3)] 24 (0, 0))) ∧ Aside0 (Below w.heap.size w w'))
          case atStart => exact ⟨(0), (by first | rfl | (simp; done) | (simp [*]; done)), H', ⟨Nat.le_refl _⟩, ⟨by (with_reducible repeat (first | apply Kd.R_alloc | apply Kd.R_drewN | apply Kd.R_drew)); exact HO_3.out⟩, ⟨by (with_reducible repeat (first | apply Kd.R_alloc | apply Kd.R_drewN | apply Kd.R_drew)); exact HO_4.out⟩, ⟨by (with_reducible repeat (first | apply Kd.V_alloc | apply Kd.V_drewN | apply Kd.V_drew)); exact HO_193003.out⟩, ⟨by (with_reducible repeat (first | refine blk_drewN ?_ _ | refine blk_drew ?_ | refine blk_alloc ?_ _)); exact BK192.out⟩, ⟨by repeat (first | (with_reducible first | exact HB.out | apply below_alloc | apply pw_below_drewN | apply below_drew1 | refine below_set ?_ GE192.out) | exact HB.out)⟩⟩
          case round =>
            clear H'
            try clear c1
            try clear c2
            try clear p2
            try clear c3
            try clear c4
            try clear c7
            try clear c9
            try clear c10
            try clear c11
            try clear c12
            try clear c16
            try clear c16b0
            try clear c16b1
            try clear c16b2
            try clear c16b3
            try clear c27
            try clear hcz8_0
            try clear hcz8_1
            try clear hcz8_2
            try clear hcz8_3
            try clear hfz8_0
            try clear hfz8_1
            try clear hfz8_2
            try clear hfz8_3
            try clear p2
            obtain ⟨x29_2, rfl, HA, HK2, HO_3, HO_4, HO_193003, BK192, HB⟩ := hrel
            cases gk with
            | zero => exact absurd HA.out (by simp [chicanelaw14_NamesChecks.l0])
            | succ k2 =>
              have H := HA.out
              clear HA
              simp only [chicanelaw14_NamesChecks.l0] at H
              by_cases c29 : x29_2 < (t198.length : Int)
              · rw [if_pos c29] at H
                have c29b0 : decide (x29_2 < (t198.length : Int)) = true := decide_eq_true c29
                clear c29
                by_cases c30 : 0 ≤ x29_2
                · rw [if_pos c30] at H
                  have c30b0 : decide (0 ≤ x29_2) = true := decide_eq_true c30
                  clear c30
                  by_cases c31 : x29_2 < (t198.length : Int)
                  · rw [if_pos c31] at H
                    have c31b0 : decide (x29_2 < (t198.length : Int)) = true := decide_eq_true c31
                    clear c31
                    by_cases c32 : x29_2 < (t201.length : Int)
                    · rw [if_pos c32] at H
                      have c32b0 : decide (x29_2 < (t201.length : Int)) = true := decide_eq_true c32
                      clear c32
                      by_cases c33 : (rdOf ByteArray.empty t198 x29_2).toList = (rdOf ByteArray.empty t201 x29_2).toList
                      · rw [if_pos c33] at H
                        have c33b0 : ((rdOf ByteArray.empty t198 x29_2).toList == (rdOf ByteArray.empty t201 x29_2).toList) = true := beq_iff_eq.mpr c33
                        have c33b1 : ((rdOf ByteArray.empty t198 x29_2).toList != (rdOf ByteArray.empty t201 x29_2).toList) = false := bne_eq_false_iff_eq.mpr c33
                        clear c33
                        have H' := Aside0.mk H
                        clear H
                        try go_wp2
                        have n0_ := Aside0.mk (Kd.R_drew HO_3.out)
                        have n1_ := Aside0.mk (Kd.R_drew HO_4.out)
                        have n2_ := Aside0.mk (Kd.V_drew HO_193003.out)
                        have n3_ := Aside0.mk (blk_drew BK192.out)
                        have n4_ := Aside0.mk (below_drew1 HB.out)
                        clear HO_3
                        clear HO_4
                        clear HO_193003
                        clear BK192
                        clear HB
                        have HO_3 := n0_
                        have HO_4 := n1_
                        have HO_193003 := n2_
                        have BK192 := n3_
                        have HB := n4_
                        clear n0_ n1_ n2_ n3_ n4_
                        have p206 : 0 ≤ (x29_2 : Int) := of_decide_eq_true (by first | (with_reducible assumption) | assumption)
                        have q206 : x29_2 < (t198.length : Int) := of_decide_eq_true (by first | (with_reducible assumption) | assumption)
                        obtain ⟨ad206, e206, hx206_0⟩ := Kd.at_string (Kd.R_reads' HO_3.out).2.2 x29_2 p206 q206
                        cases e206
                        replace p206 := eq_true p206
                        replace q206 := eq_true q206
                        obtain ⟨Ao35, co35, eo35⟩ := Kd.R_slice HO_4.out
                        (first | subst eo35 | (injection eo35 with f1_ f2_ f3_; have f4_ := f1_.symm; have f5_ := f3_.symm; clear f1_ f2_ f3_; subst f4_; subst f5_))
                        have p207 : 0 ≤ (x29_2 : Int) := of_decide_eq_true (by first | (with_reducible assumption) | assumption)
                        have q207 : x29_2 < (t201.length : Int) := of_decide_eq_true (by first | (with_reducible assumption) | assumption)
                        obtain ⟨ad207, e207, hx207_0⟩ := Kd.at_string (Kd.R_reads' HO_4.out).2.2 x29_2 p207 q207
                        cases e207
                        replace p207 := eq_true p207
                        replace q207 := eq_true q207
                        refine start_ (n := 9) (S := fun w' => w'.cell? (ad206.add (x29_2).toNat) = some (.string (rdOf ByteArray.empty t198 x29_2)) ∧ w'.cell? (ad207.add (x29_2).toNat) = some (.string (rdOf ByteArray.empty t201 x29_2))) (ds := []) #[false, false, false, false, false, false, false, false, false] (by kernel_rfl) rfl rfl ⟨hx206_0, hx207_0⟩ (fun hHeld => ?_); refine with_tabW chicanelaw14_NamesChecks.tab9 chicanelaw14_NamesChecks.bits9 (fun HT_ HW_ => ?_)
                        generalize wr.drew = w34 at HO_3 HO_4 HO_193003 BK192 HB hx206_0 hx207_0 hHeld ⊢
                        refine pure_ (i := 0) (N := some 32) (v := ?_) (a' := ?_) #[true, false, false, false, false, false, false, false, false] rfl rfl (any_of HT_.out (by kernel_rfl)) (fun _ _ _ h => h) (Or.inl ⟨by rfl, ?_⟩) ?_ ?_
                        rotate_left
                        · intro w'
                          go_simp
                          with_reducible rfl
                        rotate_left
                        · simp only [Act.put, List.setIfInBounds_toArray, List.set_cons_zero, List.set_cons_succ, i64_w, i32_w]
                          rfl
                        refine pure_ (i := 1) (N := some 33) (v := ?_) (a' := ?_) #[true, true, false, false, false, false, false, false, false] rfl rfl (any_of HT_.out (by kernel_rfl)) (fun _ _ _ h => h) (Or.inl ⟨by rfl, ?_⟩) ?_ ?_
                        rotate_left
                        · intro w'
                          go_simp
                          with_reducible rfl
                        rotate_left
                        · simp only [Act.put, List.setIfInBounds_toArray, List.set_cons_zero, List.set_cons_succ, i64_w, i32_w]
                          rfl
                        refine pure_ (i := 2) (N := some 34) (v := ?_) (a' := ?_) #[true, true, true, false, false, false, false, false, false] rfl rfl (any_of HT_.out (by kernel_rfl)) (fun _ _ _ h => h) (Or.inl ⟨by rfl, ?_⟩) ?_ ?_
                        rotate_left
                        · intro w'
                          go_simp
                          with_reducible rfl
                        rotate_left
                        · simp only [Act.put, List.setIfInBounds_toArray, List.set_cons_zero, List.set_cons_succ, i64_w, i32_w]
                          rfl
                        refine pure_ (i := 4) (N := some 36) (v := ?_) (a' := ?_) #[true, true, true, false, true, false, false, false, false] rfl rfl (any_of HT_.out (by kernel_rfl)) (fun _ _ _ h => h) (Or.inl ⟨by rfl, ?_⟩) ?_ ?_
                        rotate_left
                        · intro w'
                          go_simp
                          with_reducible rfl
                        rotate_left
                        · simp only [Act.put, List.setIfInBounds_toArray, List.set_cons_zero, List.set_cons_succ, i64_w, i32_w]
                          rfl
                        refine pure_ (i := 5) (N := some 37) (v := ?_) (a' := ?_) #[true, true, true, false, true, true, false, false, false] rfl rfl (any_of HT_.out (by kernel_rfl)) (fun _ _ _ h => h) (Or.inl ⟨by rfl, ?_⟩) ?_ ?_
                        rotate_left
                        · intro w'
                          go_simp
                          with_reducible rfl
                        rotate_left
                        · simp only [Act.put, List.setIfInBounds_toArray, List.set_cons_zero, List.set_cons_succ, i64_w, i32_w]
                          rfl
                        refine pure_ (i := 6) (N := some 38) (v := ?_) (a' := ?_) #[true, true, true, false, true, true, true, false, false] rfl rfl (any_of HT_.out (by kernel_rfl)) (fun _ _ _ h => h) (Or.inl ⟨by rfl, ?_⟩) ?_ ?_
                        rotate_left
                        · intro w'
                          go_simp
                          with_reducible rfl
                        rotate_left
                        · simp only [Act.put, List.setIfInBounds_toArray, List.set_cons_zero, List.set_cons_succ, i64_w, i32_w]
                          rfl
                        refine take_ (i := 3) (N := some 35) (v := ?_) (a' := ?_) #[true, true, true, true, true, true, true, false, false] rfl rfl (take_ofW HT_.out HW_.out (by kernel_rfl)) (fun _ _ _ h => h) (Or.inl ⟨by rfl, ?_⟩) hHeld ?_ ?_
                        rotate_left
                        · rintro w' ⟨s0, s1⟩
                          go_simp
                          with_reducible rfl
                        rotate_left
                        · simp only [Act.put, List.setIfInBounds_toArray, List.set_cons_zero, List.set_cons_succ, i64_w, i32_w]
                          rfl
                        refine take_ (i := 7) (N := some 39) (v := ?_) (a' := ?_) #[true, true, true, true, true, true, true, true, false] rfl rfl (take_ofW HT_.out HW_.out (by kernel_rfl)) (fun _ _ _ h => h) (Or.inl ⟨by rfl, ?_⟩) hHeld ?_ ?_
                        rotate_left
                        · rintro w' ⟨s0, s1⟩
                          go_simp
                          with_reducible rfl
                        rotate_left
                        · simp only [Act.put, List.setIfInBounds_toArray, List.set_cons_zero, List.set_cons_succ, i64_w, i32_w]
                          rfl
                        refine pure_ (i := 8) (N := some 40) (v := ?_) (a' := ?_) #[true, true, true, true, true, true, true, true, true] rfl rfl (any_of HT_.out (by kernel_rfl)) (fun _ _ _ h => h) (Or.inl ⟨by rfl, ?_⟩) ?_ ?_
                        rotate_left
                        · intro w'
                          go_simp
                          with_reducible rfl
                        rotate_left
                        · simp only [Act.put, List.setIfInBounds_toArray, List.set_cons_zero, List.set_cons_succ, i64_w, i32_w]
                          rfl
                        refine done_ (done_of HT_.out (by kernel_rfl)) ?_
                        try go_wp2
                        go_roundg k2
                        case measure => have := HJ5.out; have := HK2.out; omega
                        case rel => exact ⟨(wrap64 (x29_2 + 1)), (by first | rfl | (simp; done) | (simp [*]; done)), H', ⟨by have := HJ5.out; have := HK2.out; omega⟩, ⟨by (with_reducible repeat (first | apply Kd.R_alloc | apply Kd.R_drewN | apply Kd.R_drew)); exact HO_3.out⟩, ⟨by (with_reducible repeat (first | apply Kd.R_alloc | apply Kd.R_drewN | apply Kd.R_drew)); exact HO_4.out⟩, ⟨by (with_reducible repeat (first | apply Kd.V_alloc | apply Kd.V_drewN | apply Kd.V_drew)); exact HO_193003.out⟩, ⟨by (with_reducible repeat (first | refine blk_drewN ?_ _ | refine blk_drew ?_ | refine blk_alloc ?_ _)); exact BK192.out⟩, ⟨by repeat (first | (with_reducible first | exact HB.out | apply below_alloc | apply pw_below_drewN | apply below_drew1 | refine below_set ?_ GE192.out) | exact HB.out)⟩⟩
                      · rw [if_neg c33] at H
                        have c33b0 : ((rdOf ByteArray.empty t198 x29_2).toList == (rdOf ByteArray.empty t201 x29_2).toList) = false := beq_eq_false_iff_ne.mpr c33
                        have c33b1 : ((rdOf ByteArray.empty t198 x29_2).toList != (rdOf ByteArray.empty t201 x29_2).toList) = true := bne_iff_ne.mpr c33
                        obtain rfl := Option.some.inj H
                        try go_wp2
                        have n0_ := Aside0.mk (Kd.R_drew HO_3.out)
                        have n1_ := Aside0.mk (Kd.R_drew HO_4.out)
                        have n2_ := Aside0.mk (Kd.V_drew HO_193003.out)
                        have n3_ := Aside0.mk (blk_drew BK192.out)
                        have n4_ := Aside0.mk (below_drew1 HB.out)
                        clear HO_3
                        clear HO_4
                        clear HO_193003
                        clear BK192
                        clear HB
                        have HO_3 := n0_
                        have HO_4 := n1_
                        have HO_193003 := n2_
                        have BK192 := n3_
                        have HB := n4_
                        clear n0_ n1_ n2_ n3_ n4_
                        have p206 : 0 ≤ (x29_2 : Int) := of_decide_eq_true (by first | (with_reducible assumption) | assumption)
                        have q206 : x29_2 < (t198.length : Int) := of_decide_eq_true (by first | (with_reducible assumption) | assumption)
                        obtain ⟨ad206, e206, hx206_0⟩ := Kd.at_string (Kd.R_reads' HO_3.out).2.2 x29_2 p206 q206
                        cases e206
                        replace p206 := eq_true p206
                        replace q206 := eq_true q206
                        obtain ⟨Ao37, co37, eo37⟩ := Kd.R_slice HO_4.out
                        (first | subst eo37 | (injection eo37 with f1_ f2_ f3_; have f4_ := f1_.symm; have f5_ := f3_.symm; clear f1_ f2_ f3_; subst f4_; subst f5_))
                        have p207 : 0 ≤ (x29_2 : Int) := of_decide_eq_true (by first | (with_reducible assumption) | assumption)
                        have q207 : x29_2 < (t201.length : Int) := of_decide_eq_true (by first | (with_reducible assumption) | assumption)
                        obtain ⟨ad207, e207, hx207_0⟩ := Kd.at_string (Kd.R_reads' HO_4.out).2.2 x29_2 p207 q207
                        cases e207
                        replace p207 := eq_true p207
                        replace q207 := eq_true q207
                        refine start_ (n := 9) (S := fun w' => w'.cell? (ad206.add (x29_2).toNat) = some (.string (rdOf ByteArray.empty t198 x29_2)) ∧ w'.cell? (ad207.add (x29_2).toNat) = some (.string (rdOf ByteArray.empty t201 x29_2))) (ds := []) #[false, false, false, false, false, false, false, false, false] (by kernel_rfl) rfl rfl ⟨hx206_0, hx207_0⟩ (fun hHeld => ?_); refine with_tabW chicanelaw14_NamesChecks.tab9 chicanelaw14_NamesChecks.bits9 (fun HT_ HW_ => ?_)
                        generalize wr.drew = w36 at HO_3 HO_4 HO_193003 BK192 HB hx206_0 hx207_0 hHeld ⊢
                        refine pure_ (i := 0) (N := some 32) (v := ?_) (a' := ?_) #[true, false, false, false, false, false, false, false, false] rfl rfl (any_of HT_.out (by kernel_rfl)) (fun _ _ _ h => h) (Or.inl ⟨by rfl, ?_⟩) ?_ ?_
                        rotate_left
                        · intro w'
                          go_simp
                          with_reducible rfl
                        rotate_left
                        · simp only [Act.put, List.setIfInBounds_toArray, List.set_cons_zero, List.set_cons_succ, i64_w, i32_w]
                          rfl
                        refine pure_ (i := 1) (N := some 33) (v := ?_) (a' := ?_) #[true, true, false, false, false, false, false, false, false] rfl rfl (any_of HT_.out (by kernel_rfl)) (fun _ _ _ h => h) (Or.inl ⟨by rfl, ?_⟩) ?_ ?_
                        rotate_left
                        · intro w'
                          go_simp
                          with_reducible rfl
                        rotate_left
                        · simp only [Act.put, List.setIfInBounds_toArray, List.set_cons_zero, List.set_cons_succ, i64_w, i32_w]
                          rfl
                        refine pure_ (i := 2) (N := some 34) (v := ?_) (a' := ?_) #[true, true, true, false, false, false, false, false, false] rfl rfl (any_of HT_.out (by kernel_rfl)) (fun _ _ _ h => h) (Or.inl ⟨by rfl, ?_⟩) ?_ ?_
                        rotate_left
                        · intro w'
                          go_simp
                          with_reducible rfl
                        rotate_left
                        · simp only [Act.put, List.setIfInBounds_toArray, List.set_cons_zero, List.set_cons_succ, i64_w, i32_w]
                          rfl
                        refine pure_ (i := 4) (N := some 36) (v := ?_) (a' := ?_) #[true, true, true, false, true, false, false, false, false] rfl rfl (any_of HT_.out (by kernel_rfl)) (fun _ _ _ h => h) (Or.inl ⟨by rfl, ?_⟩) ?_ ?_
                        rotate_left
                        · intro w'
                          go_simp
                          with_reducible rfl
                        rotate_left
                        · simp only [Act.put, List.setIfInBounds_toArray, List.set_cons_zero, List.set_cons_succ, i64_w, i32_w]
                          rfl
                        refine pure_ (i := 5) (N := some 37) (v := ?_) (a' := ?_) #[true, true, true, false, true, true, false, false, false] rfl rfl (any_of HT_.out (by kernel_rfl)) (fun _ _ _ h => h) (Or.inl ⟨by rfl, ?_⟩) ?_ ?_
                        rotate_left
                        · intro w'
                          go_simp
                          with_reducible rfl
                        rotate_left
                        · simp only [Act.put, List.setIfInBounds_toArray, List.set_cons_zero, List.set_cons_succ, i64_w, i32_w]
                          rfl
                        refine pure_ (i := 6) (N := some 38) (v := ?_) (a' := ?_) #[true, true, true, false, true, true, true, false, false] rfl rfl (any_of HT_.out (by kernel_rfl)) (fun _ _ _ h => h) (Or.inl ⟨by rfl, ?_⟩) ?_ ?_
                        rotate_left
                        · intro w'
                          go_simp
                          with_reducible rfl
                        rotate_left
                        · simp only [Act.put, List.setIfInBounds_toArray, List.set_cons_zero, List.set_cons_succ, i64_w, i32_w]
                          rfl
                        refine take_ (i := 3) (N := some 35) (v := ?_) (a' := ?_) #[true, true, true, true, true, true, true, false, false] rfl rfl (take_ofW HT_.out HW_.out (by kernel_rfl)) (fun _ _ _ h => h) (Or.inl ⟨by rfl, ?_⟩) hHeld ?_ ?_
                        rotate_left
                        · rintro w' ⟨s0, s1⟩
                          go_simp
                          with_reducible rfl
                        rotate_left
                        · simp only [Act.put, List.setIfInBounds_toArray, List.set_cons_zero, List.set_cons_succ, i64_w, i32_w]
                          rfl
                        refine take_ (i := 7) (N := some 39) (v := ?_) (a' := ?_) #[true, true, true, true, true, true, true, true, false] rfl rfl (take_ofW HT_.out HW_.out (by kernel_rfl)) (fun _ _ _ h => h) (Or.inl ⟨by rfl, ?_⟩) hHeld ?_ ?_
                        rotate_left
                        · rintro w' ⟨s0, s1⟩
                          go_simp
                          with_reducible rfl
                        rotate_left
                        · simp only [Act.put, List.setIfInBounds_toArray, List.set_cons_zero, List.set_cons_succ, i64_w, i32_w]
                          rfl
                        refine pure_ (i := 8) (N := some 40) (v := ?_) (a' := ?_) #[true, true, true, true, true, true, true, true, true] rfl rfl (any_of HT_.out (by kernel_rfl)) (fun _ _ _ h => h) (Or.inl ⟨by rfl, ?_⟩) ?_ ?_
                        rotate_left
                        · intro w'
                          go_simp
                          with_reducible rfl
                        rotate_left
                        · simp only [Act.put, List.setIfInBounds_toArray, List.set_cons_zero, List.set_cons_succ, i64_w, i32_w]
                          rfl
                        refine done_ (done_of HT_.out (by kernel_rfl)) ?_
                        try go_wp2
                        go_ret
                        exact ⟨by first | rfl | (simp [errW_none, errW_some] <;> rfl) | (simp [*, errW_none, errW_some] <;> rfl), by repeat (first | (with_reducible first | exact HB.out | apply below_alloc | apply pw_below_drewN | apply below_drew1 | refine below_set ?_ GE192.out) | exact HB.out)⟩
                    · rw [if_neg c32] at H
                      exact absurd H (by simp)
                  · rw [if_neg c31] at H
                    exact absurd H (by simp)
                · rw [if_neg c30] at H
                  exact absurd H (by simp)
              · rw [if_neg c29] at H
                have c29b0 : decide (x29_2 < (t198.length : Int)) = false := decide_eq_false c29
                clear c29
                replace H := Option.bind_eq_some_iff.mp H
                obtain ⟨t208, A380, H⟩ := H
                replace H : (some t208) = some r := H
                have A38 := Aside0.mk A380
                clear A380
                obtain rfl := Option.some.inj H
                go_wp2_with (first | ((with_reducible refine gate_callee (f := 8) rfl ?_); refine goesL_ (some 42) rfl rfl Try.func8 (by kernel_rfl) rfl #[] rfl (by (try simp only [List.map_toArray, List.map_cons, List.map_nil]); first | done | rfl | (simp only [List.length_drop, List.length_take]; rfl)) ?_; (with_reducible refine (chicanelaw14_alive.calls k2  t208 _ A38.out).mono ?_); rintro e w39 ⟨rfl, hb⟩; refine ⟨_, rfl, ?_⟩; have n0_ := Aside0.mk (Kd.R_below (by (with_reducible repeat (first | apply Kd.R_alloc | apply Kd.R_drewN | apply Kd.R_drew)); exact HO_3.out) hb); have n1_ := Aside0.mk (Kd.R_below (by (with_reducible repeat (first | apply Kd.R_alloc | apply Kd.R_drewN | apply Kd.R_drew)); exact HO_4.out) hb); have n2_ := Aside0.mk (Kd.V_below (by (with_reducible repeat (first | apply Kd.V_alloc | apply Kd.V_drewN | apply Kd.V_drew)); exact HO_193003.out) hb); have n3_ := Aside0.mk (blk_below (g := gb192) (o := .cells #[.string a0_0, .bool a0_1, .int .i64 a0_2, .slice A0_3 l0_3.length c0_3] 24 (0, 0)) (by (with_reducible repeat (first | refine blk_drewN ?_ _ | refine blk_drew ?_ | refine blk_alloc ?_ _)); exact BK192.out) hb); have n4_ := Aside0.mk (below_step (by repeat (first | (with_reducible first | exact HB.out | apply below_alloc | apply pw_below_drewN | apply below_drew1 | refine below_set ?_ GE192.out) | exact HB.out)) hb); clear HO_3; clear HO_4; clear HO_193003; clear BK192; clear HB; have HO_3 := n0_; have HO_4 := n1_; have HO_193003 := n2_; have BK192 := n3_; have HB := n4_; clear n0_ n1_ n2_ n3_ n4_; (try clear hb); (try clear hb2); (try clear hk); (try clear hi)))
                go_ret
                exact ⟨by first | rfl | (simp [errW_none, errW_some] <;> rfl) | (simp [*, errW_none, errW_some] <;> rfl), by repeat (first | (with_reducible first | exact HB.out | apply below_alloc | apply pw_below_drewN | apply below_drew1 | refine below_set ?_ GE192.out) | exact HB.out)⟩
  · replace c3 := Bool.eq_false_iff.mpr c3
    subst c3
    have H1 : ((chicanelaw14_alive.f k).bind fun t197 => (some t197)) = some r := by rw [if_neg (show ¬ (false = true) by decide)] at H; exact H
    clear H
    have H := H1
    clear H1
    replace H := Option.bind_eq_some_iff.mp H
    obtain ⟨t197, A400, H⟩ := H
    replace H : (some t197) = some r := H
    have A40 := Aside0.mk A400
    clear A400
    obtain rfl := Option.some.inj H
    go_enter Try.func3, Try.ntmps3
    go_wp2_with (first | ((with_reducible refine gate_dst (N := 1) rfl ?_); refine box_event ?hg (N := 1) ?hd (cs := #[.string a0_0, .bool a0_1, .int .i64 a0_2, .slice A0_3 l0_3.length c0_3]) (t := 24) ?hr ?_; (case hd => rfl); (case hg => rfl); (case hr => first | (go_simp; done) | (go_simp; rfl)); intro gb192 hg w41 hbox hb; have n0_ := Aside0.mk (Kd.V_below (Kd.V_elderB (by (with_reducible repeat (first | apply Kd.V_alloc | apply Kd.V_drewN | apply Kd.V_drew)); exact HO0_3.out) gb192 (Nat.le_of_eq hg.symm)) hb); have n1_ := Aside0.mk (below_step (by repeat (first | (with_reducible first | exact HB.out | apply below_alloc | apply pw_below_drewN | apply below_drew1) | exact HB.out)) hb); have n2_ := Aside0.mk (hbox); have n3_ := Aside0.mk ((by rw [hg]; exact (below_size (by repeat (first | (with_reducible first | exact HB.out | apply below_alloc | apply pw_below_drewN | apply below_drew1) | exact HB.out))) : w.heap.size ≤ gb192)); have n4_ := Aside0.mk ((by rw [hg]; exact (below_size (by repeat (first | (with_reducible first | exact HB.out | apply below_alloc | apply pw_below_drewN | apply below_drew1) | exact HB.out))) : w.heap.size ≤ gb192)); clear HO0_3; clear HB; have HO0_3 := n0_; have HB := n1_; have BK192 := n2_; have GW192 := n3_; have GE192 := n4_; clear n0_ n1_ n2_ n3_ n4_; clear hb hbox hg; have hcz42_0 : w41.cell? ⟨gb192, 0, none⟩ = some (.string a0_0) := (blk_cell BK192.out 0).trans rfl; have hcz42_1 : w41.cell? ⟨gb192, 1, none⟩ = some (.bool a0_1) := (blk_cell BK192.out 1).trans rfl; have hcz42_2 : w41.cell? ⟨gb192, 2, none⟩ = some (.int .i64 a0_2) := (blk_cell BK192.out 2).trans rfl; have hcz42_3 : w41.cell? ⟨gb192, 3, none⟩ = some (.slice A0_3 l0_3.length c0_3) := (blk_cell BK192.out 3).trans rfl; have hfz42_0 := blk_frozen BK192.out 0; have hfz42_1 := blk_frozen BK192.out 1; have hfz42_2 := blk_frozen BK192.out 2; have hfz42_3 := blk_frozen BK192.out 3) | ((with_reducible refine gate_dst (N := 7) rfl ?_); refine Kd.N_lit k24 _ 24 ?hg (N' := 7) ?hd (xs := ([(⟨a0_0, a0_1, a0_2, l0_3⟩ : S24)] : List (S24))) (inner := [.string a0_0, .bool a0_1, .int .i64 a0_2, .slice A0_3 l0_3.length c0_3]) (ok := (fun k_ => (P0_3_ k_ ∨ w.heap.size ≤ k_) ∧ k_ ≠ gb192)) (okp := (fun k_ => (P0_3_ k_ ∨ w.heap.size ≤ k_) ∧ k_ ≠ gb192)) ?hr ?hp (fun _ hk => hk) ((show ∀ k_, w41.heap.size ≤ k_ → (fun k_ => (P0_3_ k_ ∨ w.heap.size ≤ k_) ∧ k_ ≠ gb192) k_ from fun k_ hk => ⟨(.inr (Nat.le_trans (below_size (by repeat (first | (with_reducible first | exact HB.out | apply below_alloc | apply pw_below_drewN | apply below_drew1 | refine below_set ?_ GE192.out) | exact HB.out))) hk)), Kd.freshB (g := gb192) (o := .cells #[.string a0_0, .bool a0_1, .int .i64 a0_2, .slice A0_3 l0_3.length c0_3] 24 (0, 0)) (by (with_reducible repeat (first | refine blk_drewN ?_ _ | refine blk_drew ?_ | refine blk_alloc ?_ _)); exact BK192.out) k_ hk⟩) _ (Nat.le_refl _)) (Below.refl _ _) (Nat.le_refl _) (by simp) ?_; (case hd => rfl); (case hg => rfl); (case hr => first | (go_simp; done) | (go_simp; rfl)); (case hp => exact (Reps.c4 (show Kd.FK k24 _ _ (⟨a0_0, a0_1, a0_2, l0_3⟩ : S24) [.string a0_0, .bool a0_1, .int .i64 a0_2, .slice A0_3 l0_3.length c0_3] from (k24_mkF _ _ (⟨a0_0, a0_1, a0_2, l0_3⟩ : S24) (Kd.V_reads' (Kd.V_mono (ok' := (fun k_ => (P0_3_ k_ ∨ w.heap.size ≤ k_) ∧ k_ ≠ gb192)) (HO0_3.out) (fun k_ hk => ⟨hk.1, hk.2⟩))).2.1 (Kd.V_F (Kd.V_mono (ok' := (fun k_ => (P0_3_ k_ ∨ w.heap.size ≤ k_) ∧ k_ ≠ gb192)) (HO0_3.out) (fun k_ hk => ⟨hk.1, hk.2⟩))))) (Reps.none _ _))); intro v194 w43 ho44 hb hg_ hnew_; clear hg_ hnew_; (first | rw [← Ny193.out] at ho44 | (simp only [Int.reduceToNat] at ho44; rw [← Ny193.out] at ho44)); have n0_ := Aside0.mk (Kd.V_elder' (by (with_reducible repeat (first | apply Kd.V_alloc | apply Kd.V_drewN | apply Kd.V_drew)); exact HO0_3.out) (Kd.N_base ho44) hb); have n1_ := Aside0.mk (Kd.N_lower ho44 (below_size (by repeat (first | (with_reducible first | exact HB.out | apply below_alloc | apply pw_below_drewN | apply below_drew1 | refine below_set ?_ GE192.out) | exact HB.out)))); have n2_ := Aside0.mk (blk_below (g := gb192) (o := .cells #[.string a0_0, .bool a0_1, .int .i64 a0_2, .slice A0_3 l0_3.length c0_3] 24 (0, 0)) (by (with_reducible repeat (first | refine blk_drewN ?_ _ | refine blk_drew ?_ | refine blk_alloc ?_ _)); exact BK192.out) hb); have n3_ := Aside0.mk (below_step (by repeat (first | (with_reducible first | exact HB.out | apply below_alloc | apply pw_below_drewN | apply below_drew1 | refine below_set ?_ GE192.out) | exact HB.out)) hb); clear HO0_3; clear BK192; clear HB; have HO0_3 := n0_; have HO195 := n1_; have BK192 := n2_; have HB := n3_; clear n0_ n1_ n2_ n3_; clear hb ho44; obtain ⟨Ao45, co45, eo45⟩ := Kd.N_slice HO195.out; subst eo45) | ((with_reducible refine gate_callee (f := 7) rfl ?_); refine goesL_ (some 8) rfl rfl Try.func7 (by kernel_rfl) rfl #[.slice Ao45 y193.length co45] rfl (by (try simp only [List.map_toArray, List.map_cons, List.map_nil]); first | done | rfl | (simp only [List.length_drop, List.length_take]; rfl)) ?_; (with_reducible refine (chicanelaw14_few.calls k _ _ y193 false _ ?side1 ?side2 A2.out).mono ?_); (case side1 => repeat (first | exact (Kd.N_reads' HO195.out).2.2 | (with_reducible refine Kd.C_alloc ?_ _) | (with_reducible refine Kd.C_drewN ?_ _) | (with_reducible refine Kd.C_drew ?_))); (case side2 => exact (Kd.N_reads' HO195.out).2.1); rintro e w46 ⟨rfl, hb⟩; refine ⟨_, rfl, ?_⟩; have n0_ := Aside0.mk (Kd.V_below (by (with_reducible repeat (first | apply Kd.V_alloc | apply Kd.V_drewN | apply Kd.V_drew)); exact HO0_3.out) hb); have n1_ := Aside0.mk (Kd.N_below (by (with_reducible repeat (first | apply Kd.N_alloc | apply Kd.N_drewN | apply Kd.N_drew)); exact HO195.out) hb); have n2_ := Aside0.mk (blk_below (g := gb192) (o := .cells #[.string a0_0, .bool a0_1, .int .i64 a0_2, .slice A0_3 l0_3.length c0_3] 24 (0, 0)) (by (with_reducible repeat (first | refine blk_drewN ?_ _ | refine blk_drew ?_ | refine blk_alloc ?_ _)); exact BK192.out) hb); have n3_ := Aside0.mk (below_step (by repeat (first | (with_reducible first | exact HB.out | apply below_alloc | apply pw_below_drewN | apply below_drew1 | refine below_set ?_ GE192.out) | exact HB.out)) hb); clear HO0_3; clear HO195; clear BK192; clear HB; have HO0_3 := n0_; have HO195 := n1_; have BK192 := n2_; have HB := n3_; clear n0_ n1_ n2_ n3_; (try clear hb); (try clear hb2); (try clear hk); (try clear hi)) | ((with_reducible refine gate_callee (f := 8) rfl ?_); refine goesL_ (some 10) rfl rfl Try.func8 (by kernel_rfl) rfl #[] rfl (by (try simp only [List.map_toArray, List.map_cons, List.map_nil]); first | done | rfl | (simp only [List.length_drop, List.length_take]; rfl)) ?_; (with_reducible refine (chicanelaw14_alive.calls k  t197 _ A40.out).mono ?_); rintro e w47 ⟨rfl, hb⟩; refine ⟨_, rfl, ?_⟩; have n0_ := Aside0.mk (Kd.V_below (by (with_reducible repeat (first | apply Kd.V_alloc | apply Kd.V_drewN | apply Kd.V_drew)); exact HO0_3.out) hb); have n1_ := Aside0.mk (Kd.N_below (by (with_reducible repeat (first | apply Kd.N_alloc | apply Kd.N_drewN | apply Kd.N_drew)); exact HO195.out) hb); have n2_ := Aside0.mk (blk_below (g := gb192) (o := .cells #[.string a0_0, .bool a0_1, .int .i64 a0_2, .slice A0_3 l0_3.length c0_3] 24 (0, 0)) (by (with_reducible repeat (first | refine blk_drewN ?_ _ | refine blk_drew ?_ | refine blk_alloc ?_ _)); exact BK192.out) hb); have n3_ := Aside0.mk (below_step (by repeat (first | (with_reducible first | exact HB.out | apply below_alloc | apply pw_below_drewN | apply below_drew1 | refine below_set ?_ GE192.out) | exact HB.out)) hb); clear HO0_3; clear HO195; clear BK192; clear HB; have HO0_3 := n0_; have HO195 := n1_; have BK192 := n2_; have HB := n3_; clear n0_ n1_ n2_ n3_; (try clear hb); (try clear hb2); (try clear hk); (try clear hi)))
    go_ret
    exact ⟨by first | rfl | (simp [errW_none, errW_some] <;> rfl) | (simp [*, errW_none, errW_some] <;> rfl), by repeat (first | (with_reducible first | exact HB.out | apply below_alloc | apply pw_below_drewN | apply below_drew1 | refine below_set ?_ GE192.out) | exact HB.out)⟩
end Go.Proofs.Ytlglbpjccpdloaa.PNamA
set_option linter.unusedVariables false
set_option linter.unusedSimpArgs false
namespace Go.Proofs.Ytlglbpjccpdloaa.Ext
open Go.RowKit Go.Proofs.Ytlglbpjccpdloaa.PNamA Go.Proofs.Ytlglbpjccpdloaa.Tox Go.Proofs.Ytlglbpjccpdloaa.ToxZ Go.Proofs.Ytlglbpjccpdloaa.NmLaw Go.Proofs.YtlglbpjccpdloaaW.PrintWords Go.Proofs.YtlglbpjccpdloaaW.PrintLast
theorem checks_l0 (L : List ByteArray) (hm : L.length ≤ 1000) : ∀ (k i : Nat), (L.length - i) + 101 ≤ k → i ≤ L.length → chicanelaw14_NamesChecks.l0 k L L (L.length : Int) (i : Int) = some true := by
  intro k
  induction k with
  | zero => intro i h; omega
  | succ k ih =>
    intro i h hi
    unfold chicanelaw14_NamesChecks.l0
    by_cases hl : i < L.length
    · rw [if_pos (by omega), if_pos (by omega), if_pos (by omega), if_pos (by omega), if_pos rfl, show wrap64 ((i : Int) + 1) = ((i + 1 : Nat) : Int) by rw [w64_in' _ (by omega) (by omega)]; rfl]
      exact ih (i + 1) (by omega) (by omega)
    · rw [if_neg (by omega), alive_is k (by omega)]
      rfl
theorem lines_len (x : S24) : (linesOf x).length ≤ 9 := by
  unfold linesOf
  split
  · rename_i hc
    have := (chk_name hc).2
    simp
    omega
  · simp
theorem checks_is (x : S24) (hz : szP x) : chicanelaw14_NamesChecks.f 300 x.f0 x.f1 x.f2 x.f3 = some true := by
  have hl := lines_len x
  unfold chicanelaw14_NamesChecks.f
  rw [few_is _ (by simp) 300 (by simp), Option.bind_some]
  split
  · rw [lines_is x 300 (by omega), Option.bind_some, rlines_is x hz 300 (by omega), Option.bind_some, if_pos rfl, check_is' x 300 (by omega), Option.bind_some, rchk_is x hz 300 (by omega), Option.bind_some]
    have hb : (chkP x != chkP x) = false := by simp
    rw [hb]
    show (if (false : Bool) = true then some false else chicanelaw14_NamesChecks.l0 299 (linesOf x) (linesOf x) ((linesOf x).length : Int) 0) = some true
    rw [if_neg Bool.false_ne_true]
    exact checks_l0 _ (by omega) 299 0 (by omega) (by omega)
  · rw [alive_is 300 (by omega)]
    rfl
end Go.Proofs.Ytlglbpjccpdloaa.Ext
namespace Go.Proofs.Ytlglbpjccpdloaa.namesChecks
open Go.ChangeShapes Go.WideShapes Go.ChangeAt Go.RowKit
open Go.ChangeMaps (open_string shut_string)
open Go.Proofs.YtlglbpjccpdloaaW
set_option linter.unusedVariables false
theorem own : ownKnob Try.prog.godebug = none := by kernel_rfl
theorem laidOut : laidOutB Try.prog = true := by kernel_rfl
set_option maxRecDepth 100000 in
theorem lifted (os : Os) (started : os.Started) (H : Type) (enc : TypeId × Value → H) :
    ReturnsInHanded {} Try.checked os 3 .any (Rows.namesChecksSpec.pre6 enc Try.prog Try.f3 Rows.namesChecksRow.domain false) (Rows.namesChecksSpec.post enc Try.prog Try.f3 false true false false) := by
  refine returnsInHanded_of_change_sized (C := Try.checked) own started (by kernel_rfl) Try.func3
    (ChangeSpec.witness6 (enc := enc) (C := Try.checked) false ⟨#[], #[.agg #[.string ByteArray.empty, .bool false, .int .i64 0, .slice none 0 0]], []⟩ 8 (by kernel_rfl) (by kernel_rfl) (by kernel_rfl) (by kernel_rfl)) ?_
  intro W base args ds gs before hval0 hW hcnd hsz0 _
  have hsz : (DataW.weightsEach Try.prog (Try.f3.params.toList ++ Rows.namesChecksSpec.plain.varTypes Try.prog) (ds ++ gs)).all (· ≤ reachBytes) = true := hsz0
  have hval : ∀ (j : Nat) t v, Try.f3.params[j]? = some t → args[j]? = some v → Value.okWide Try.prog W .any base t v := hval0
  have hW' := hW
  obtain ⟨p, q, hA0, hV, rfl, hfz, hnd⟩ := hW
  have hA : DataW.TrodAll enc Try.prog W 0 (fun _ => true) true Try.f3.params.toList args.toList ds p := hA0
  rw [Try.params3] at hA hval hsz
  obtain ⟨v0, vs0, d0, ds0, p0, q0, hargs, rfl, rfl, h0, r0'⟩ := trodAll_cons hA
  obtain ⟨rfl, rfl, rfl⟩ := trodAll_nil r0'
  obtain rfl : args = #[v0] := by cases args; simp_all
  obtain ⟨rfl, rfl⟩ := trodVars_none hV
  have k0 := h0
  have lt0 : ∀ x ∈ p0, x.block < W.heap.size := by obtain ⟨m, hm⟩ := k0; exact DataW.trod_lt m _ _ _ hm
  obtain ⟨c0, rfl, _⟩ := okWide_struct Try.underlying24 (hval 0 24 v0 rfl rfl)
  obtain ⟨t0, A0, cp0, rfl, hc0, r0, e0⟩ := Arg.proxy_arg h0
  clear hA0 hval0 hsz0 hsz
  refine (PNamA.chicanelaw14_NamesChecks.calls 300 t0.f0 t0.f1 t0.f2 (fun k => k < W.heap.size) A0 cp0 t0.f3 true W (PrintWords.Kd.V_mk hc0 (PrintWords.Kd.C_F Arg.heapT r0)) (Ext.checks_is t0 ⟨e0.1, fun t ht => (e0.2.2 t ht).1⟩)).mono fun e W' ⟨he, bel⟩ => ?_
  subst he
  exact ⟨_, rfl, _, _, _, [], _, [], hW', trodAll_mk1 (shut_bool Try.underlying4 _), (trodAll_cons_mk (Below.trod laidOut (by kernel_rfl) (of_decide_eq_true (by kernel_rfl)) k0 bel lt0) trodAll_mk0), rfl, bel.frame _, fun h => by cases h⟩
theorem over : Rows.namesChecksRow.holds Try.pinned (OpenSpec.ofChange Rows.namesChecksSpec) :=
  OpenClaim.holds_of_wide 3 Try.f3 rfl rfl rfl rfl rfl rfl rfl ⟨rfl, rfl, rfl, rfl, rfl⟩ rfl rfl rfl rfl rfl (by kernel_rfl) Try.func3 (by kernel_rfl)
    (of_decide_eq_true (by kernel_rfl)) (by unfold Func.isWrapper; first | (rw [if_pos (by decide +kernel)]; kernel_rfl) | (rw [if_neg (by decide +kernel)]; exact ⟨rfl, rfl⟩))
    (fun os started H enc _ => lifted os started H enc)
theorem proved : Rows.NamesChecksSaid := over
end Go.Proofs.Ytlglbpjccpdloaa.namesChecks
namespace Go.Proofs.Ytlglbpjccpdloaa
theorem namesChecks_holds : Rows.NamesChecksSaid := namesChecks.proved
end Go.Proofs.Ytlglbpjccpdloaa
