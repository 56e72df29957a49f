/- Gathered by a program of this session (shake.py): what the claim's theorem needs. -/
import Derived.Test.YtlglbpjccpdloaaGreatDoorXu1
import Derived.Test.YtlglbpjccpdloaaGreatDoorXu3
import Derived.Test.YtlglbpjccpdloaaGreatDoorXu7
import Derived.Test.YtlglbpjccpdloaaGreatDoorXu8
import Derived.SevenTiedAt
import Derived.Test.YtlglbpjccpdloaaGreatDoorCards
import Derived.Test.YtlglbpjccpdloaaGreatDoorTie
import Derived.LaidMore
import Derived.Stop.Joined
import Derived.Lay
import Derived.WalkKit
import Derived.ProofKit
import Derived.OpenShut
import Derived.ShutString
import Derived.ChangeOld
import Derived.Below
import Derived.SizedLaws
import Derived.Test.YtlglbpjccpdloaaGreatDoorRows
import Derived.SliceStrings
import Derived.ChangeArms
import Derived.Lib.LaidU8
import Derived.MakeChecks
set_option linter.unusedVariables false
set_option linter.unusedSimpArgs false
namespace Go.Proofs.YtlglbpjccpdloaaGreatDoor.Ext
end Go.Proofs.YtlglbpjccpdloaaGreatDoor.Ext
namespace Go.Proofs.YtlglbpjccpdloaaGreatDoor.POrdB
end Go.Proofs.YtlglbpjccpdloaaGreatDoor.POrdB
namespace Go.Proofs.YtlglbpjccpdloaaGreatDoor.PWrdA
end Go.Proofs.YtlglbpjccpdloaaGreatDoor.PWrdA
namespace Go.Proofs.YtlglbpjccpdloaaGreatDoor.Tox
end Go.Proofs.YtlglbpjccpdloaaGreatDoor.Tox
namespace Go.Proofs.YtlglbpjccpdloaaGreatDoor.ToxPlain
end Go.Proofs.YtlglbpjccpdloaaGreatDoor.ToxPlain
namespace Go.Proofs.YtlglbpjccpdloaaGreatDoor.ToxZ
end Go.Proofs.YtlglbpjccpdloaaGreatDoor.ToxZ
namespace Go.Proofs.YtlglbpjccpdloaaGreatDoorW.PrintLast
end Go.Proofs.YtlglbpjccpdloaaGreatDoorW.PrintLast
namespace Go.Proofs.YtlglbpjccpdloaaGreatDoorW.PrintMore
end Go.Proofs.YtlglbpjccpdloaaGreatDoorW.PrintMore
namespace Go.Proofs.YtlglbpjccpdloaaGreatDoorW.PrintWords
end Go.Proofs.YtlglbpjccpdloaaGreatDoorW.PrintWords
set_option linter.unusedVariables false
set_option linter.unusedSimpArgs false
namespace Go.Proofs.YtlglbpjccpdloaaGreatDoor.Ext
open Go.RowKit Go.Proofs.YtlglbpjccpdloaaGreatDoorW.PrintWords Go.Proofs.YtlglbpjccpdloaaGreatDoorW.PrintLast Go.Proofs.YtlglbpjccpdloaaGreatDoor.PWrdA
theorem w64n (k : Nat) (h : k < 9223372036854775807) : wrap64 ((k : Int) + 1) = ((k + 1 : Nat) : Int) := by unfold wrap64; omega
theorem ba_size (l : List UInt8) : (ba l).size = l.length := by show l.toArray.size = _; rw [List.size_toArray]
theorem bl_len (a : ByteArray) : (bl a).length = a.size := by simp [bl]
theorem pb_33 (c : UInt8) : WP.pb c = (!decide (c.toNat < 33) && !decide (126 < c.toNat) && !decide (c.toNat = 34) && !decide (c.toNat = 92)) := by
  rw [Bool.eq_iff_iff]
  simp [WP.pb, WP.may, WP.blk]
  omega
theorem rplain_l0 (s : ByteArray) (hs : s.size ≤ 9223372036854775806) : ∀ (f k : Nat), s.size - k < f → k ≤ s.size → chicaneref15_Plain.l0 f s (k : Int) = some (((bl s).drop k).all WP.pb) := by
  intro f
  induction f with
  | zero => intro k h; omega
  | succ f ih =>
    intro k h hk
    unfold chicaneref15_Plain.l0
    by_cases hl : k < s.size
    · obtain ⟨c, hc⟩ : ∃ c, s[k] = c := ⟨_, rfl⟩
      have hd : (bl s).drop k = c :: (bl s).drop (k + 1) := by unfold bl; rw [drop_at s k hl, hc]
      rw [if_pos (by omega), if_pos (by omega), bt_nat s k hl, hc, hd, List.all_cons, w64n k (by omega), pb_33]
      by_cases h1 : c.toNat < 33
      · rw [if_pos (by omega)]; simp [h1]
      rw [if_neg (by omega)]
      by_cases h2 : 126 < c.toNat
      · rw [if_pos (by omega)]; simp [h2]
      rw [if_neg (by omega)]
      by_cases h3 : c.toNat = 34
      · rw [if_pos (by omega)]; simp [h3]
      rw [if_neg (by omega)]
      by_cases h4 : c.toNat = 92
      · rw [if_pos (by omega)]; simp [h4]
      rw [if_neg (by omega), ih (k + 1) (by omega) (by omega)]
      simp [h1, h2, h3, h4]
    · rw [if_neg (by omega)]
      have hd : (bl s).drop k = [] := by unfold bl; rw [drop_end s k (by omega)]
      rw [hd]; rfl
theorem rplain_j0 (g : Nat) (s : ByteArray) (b : Bool) : chicaneref15_Plain.j0 (g + 1) s b = if b = true then some false else chicaneref15_Plain.l0 g s 0 := by rw [chicaneref15_Plain.j0]
theorem rplain_is (s : ByteArray) (hs : s.size ≤ 9223372036854775806) (f : Nat) (hf : s.size + 1 < f) : chicaneref15_Plain.f f s = some (WP.plain (bl s)) := by
  obtain ⟨g, rfl⟩ : ∃ g, f = g + 1 := ⟨f - 1, by omega⟩
  unfold chicaneref15_Plain.f
  rw [toList_data]
  have hl := rplain_l0 s hs g 0 (by omega) (Nat.zero_le _)
  rw [show ((0 : Nat) : Int) = 0 from rfl, List.drop_zero] at hl
  cases hd : s.data.toList with
  | nil =>
    rw [if_pos rfl, rplain_j0, if_pos rfl]
    unfold bl
    rw [hd]; rfl
  | cons c r =>
    have h0 : 0 < s.size := by have := congrArg List.length hd; simp at this; omega
    have hc : s[0] = c := by
      have := drop_at s 0 h0
      rw [List.drop_zero, hd] at this
      exact (List.cons.inj this).1.symm
    rw [if_neg (by simp), if_pos (by omega), show (0 : Int) = ((0 : Nat) : Int) from rfl, bt_nat s 0 h0, hc]
    have hbl : bl s = c :: r := hd
    rw [hbl] at hl ⊢
    have e : ((c.toNat : Int) == 35) = decide (c.toNat = 35) := by rw [Bool.eq_iff_iff]; simp; omega
    rw [e, rplain_j0]
    by_cases h35 : c.toNat = 35
    · rw [if_pos (by simp [h35])]; simp [WP.plain, h35]
    · rw [if_neg (by simp [h35])]
      rw [hl]
      simp only [WP.plain]
      simp [h35]
theorem rmay_f (c : UInt8) : chicaneref15_may.f (c.toNat : Int) = some (WP.may c) := may_f c
theorem son_one (c : UInt8) : strOfNums [(c.toNat : Int)] = ba [c] := str_ba [c]
theorem son_92 : strOfNums [(92 : Int)] = ba [92] := str_ba [92]
theorem son_34 : strOfNums [(34 : Int)] = ba [34] := str_ba [34]
theorem ba_app (a b : List UInt8) : ba a ++ ba b = ba (a ++ b) := by
  apply ByteArray.ext
  apply Array.toList_inj.1
  simp [ba]
theorem rd_at (l : List ByteArray) (i : Nat) (h : i < l.length) : rdOf ByteArray.empty l (i : Int) = l[i] := by
  unfold rdOf
  simp [List.getD_eq_getElem?_getD, h]
theorem plain_cn (l : List UInt8) (h : WP.plain l = true) : WP.cn l = 0 := by
  unfold WP.cn
  rw [List.countP_eq_zero]
  intro c hc
  have : l.all WP.pb = true := by
    cases l with
    | nil => cases hc
    | cons a r => simp only [WP.plain, Bool.and_eq_true] at h; exact h.2
  have := List.all_eq_true.1 this c hc
  obtain ⟨_, _, h3, h4⟩ := (WP.pb_iff c).1 this
  simp [WP.sp, h3, h4]
theorem rjoin_l1 (L : List ByteArray) (i : Nat) (hi : i < L.length) (x : ByteArray) (hx : L[i] = x) (hxs : x.size ≤ 2000) (q : List UInt8) (hq : q.length ≤ 1) (R : ByteArray) (K : Nat)
    (hi16 : i ≤ 16) (acc0 : List UInt8) (hnext : (bl x).all WP.may = true → ∀ k', K ≤ k' → chicaneref15_Join.l0 k' L (ba (acc0 ++ WP.es (bl x) ++ q)) ((i + 1 : Nat) : Int) = some R) (hbad : (bl x).all WP.may = false → R = ⟨#[]⟩) (h0 : acc0.length ≤ 1000000) :
    ∀ (f k : Nat), K + (x.size - k) < f → k ≤ x.size → ((bl x).take k).all WP.may = true → chicaneref15_Join.l1 f L (ba (acc0 ++ WP.es ((bl x).take k))) (i : Int) (ba q) (k : Int) = some R := by
  intro f
  induction f with
  | zero => intro k h; omega
  | succ f ih =>
    intro k hf hk ham
    unfold chicaneref15_Join.l1
    rw [if_pos (by omega), if_pos (by omega), rd_at L i hi, hx]
    have hel : (WP.es ((bl x).take k)).length ≤ 4000 := by
      have h1 := WP.es_len ((bl x).take k)
      have h2 := WP.cn_le ((bl x).take k)
      rw [List.length_take, bl_len] at h2
      rw [List.length_take, bl_len] at h1
      omega
    by_cases hl : k < x.size
    · obtain ⟨c, hc⟩ : ∃ c, x[k] = c := ⟨_, rfl⟩
      have ht : (bl x).take (k + 1) = (bl x).take k ++ [c] := by unfold bl; rw [take_snoc_b x k hl, hc]
      have hes : WP.es ((bl x).take (k + 1)) = WP.es ((bl x).take k) ++ (if WP.sp c = true then [92, c] else [c]) := by rw [ht, WP.es_append, WP.es_one]
      rw [if_pos (by omega), if_pos (by omega), bt_nat x k hl, hc, rmay_f, w64n k (by omega)]
      simp only [Option.bind_some]
      by_cases hm : WP.may c = true
      · rw [if_pos hm]
        have hstep := ih (k + 1) (by omega) (by omega) (by rw [ht, List.all_append, ham]; simp [hm])
        rw [hes] at hstep
        have hb1 : ∀ l : List UInt8, l.length ≤ 1 → (ba (acc0 ++ WP.es ((bl x).take k))).size + (ba l).size ≤ 9223372036854775807 := by
          intro l hl1; rw [ba_size, ba_size, List.length_append]; omega
        by_cases h34 : c.toNat = 34
        · have hs : WP.sp c = true := by simp [WP.sp, h34]
          rw [hs, if_pos rfl] at hstep
          rw [if_pos (by omega), son_92, if_pos (hb1 [92] (by simp)), son_one, ba_app, if_pos (by rw [ba_size, ba_size, List.length_append, List.length_append]; simp; omega), ba_app, List.append_assoc, List.append_assoc]
          exact hstep
        · rw [if_neg (by omega)]
          by_cases h92 : c.toNat = 92
          · have hs : WP.sp c = true := by simp [WP.sp, h92]
            rw [hs, if_pos rfl] at hstep
            rw [if_pos (by omega), son_92, if_pos (hb1 [92] (by simp)), son_one, ba_app, if_pos (by rw [ba_size, ba_size, List.length_append, List.length_append]; simp; omega), ba_app, List.append_assoc, List.append_assoc]
            exact hstep
          · have hs : WP.sp c = false := by simp [WP.sp, h34, h92]
            rw [hs, if_neg (by decide)] at hstep
            rw [if_neg (by omega), son_one, if_pos (hb1 [c] (by simp)), ba_app, List.append_assoc]
            exact hstep
      · rw [if_neg hm, hbad]
        rw [List.all_eq_false]
        exact ⟨c, by rw [← hc]; exact List.getElem_mem (l := x.data.toList) (by simpa using hl), by simpa using hm⟩
    · have hkE : k = x.size := by omega
      subst hkE
      have hta : (bl x).take x.size = bl x := take_all x
      rw [hta] at ham hel ⊢
      rw [if_neg (by omega), if_pos (by rw [ba_size, ba_size, List.length_append]; omega), ba_app, w64n i (by omega)]
      exact hnext ham f (by omega)
def rj : Nat → List (List UInt8) → List UInt8 → List UInt8
  | _, [], acc => if 256 < acc.length then [] else acc
  | i, s :: r, acc => if s.all WP.may = false then [] else rj (i + 1) r (acc ++ (if 0 < i then [32] else []) ++ WP.qt s)
def need : List (List UInt8) → Nat
  | [] => 1
  | s :: r => need r + s.length + 10
theorem need_cons (x : ByteArray) (r : List ByteArray) : need ((x :: r).map bl) = need (r.map bl) + x.size + 10 := by
  rw [List.map_cons, need, bl_len]
theorem rjoin_l0 (L : List ByteArray) (h16 : L.length ≤ 16) (hsz : ∀ x ∈ L, x.size ≤ 2000) : ∀ (d i : Nat) (acc : List UInt8), L.length - i = d → i ≤ L.length → acc.length ≤ i * 4003 → ∀ f, need ((L.drop i).map bl) + 3000 ≤ f →
    chicaneref15_Join.l0 f L (ba acc) (i : Int) = some (ba (rj i ((L.drop i).map bl) acc)) := by
  intro d
  induction d with
  | zero =>
    intro i acc hd hi hacc f hf
    obtain ⟨g, rfl⟩ : ∃ g, f = g + 1 := ⟨f - 1, by omega⟩
    unfold chicaneref15_Join.l0
    have hdr : L.drop i = [] := List.drop_eq_nil_of_le (by omega)
    rw [if_neg (by omega), hdr, ba_size]
    simp only [List.map_nil, rj]
    by_cases hb : 256 < acc.length
    · rw [if_pos (by omega), if_pos hb]; rfl
    · rw [if_neg (by omega), if_neg hb]
  | succ d ih =>
    intro i acc hd hi hacc f hf
    have hil : i < L.length := by omega
    obtain ⟨x, hx⟩ : ∃ x, L[i] = x := ⟨_, rfl⟩
    have hxs : x.size ≤ 2000 := hsz x (by rw [← hx]; exact List.getElem_mem hil)
    have hdr : L.drop i = x :: L.drop (i + 1) := by rw [List.drop_eq_getElem_cons hil, hx]
    have hneed : need ((L.drop i).map bl) = need ((L.drop (i + 1)).map bl) + x.size + 10 := by rw [hdr]; exact need_cons x _
    rw [hneed] at hf
    rw [hdr]
    simp only [List.map_cons, rj]
    obtain ⟨R, hR⟩ : ∃ R, R = ba (if (bl x).all WP.may = false then [] else rj (i + 1) ((L.drop (i + 1)).map bl) (acc ++ (if 0 < i then [32] else []) ++ WP.qt (bl x))) := ⟨_, rfl⟩
    rw [← hR]
    have hbad : (bl x).all WP.may = false → R = ⟨#[]⟩ := fun h => by rw [hR, if_pos h]; rfl
    have hgood : (bl x).all WP.may = true → ∀ Y : List UInt8, (if (bl x).all WP.may = false then [] else Y) = Y := fun hm Y => if_neg (by simp [hm])
    have main : ∀ acc1 : List UInt8, acc1 = acc ++ (if 0 < i then [32] else []) → ∀ f, need ((L.drop (i + 1)).map bl) + x.size + 3008 ≤ f → chicaneref15_Join.j1 f L (ba acc1) (i : Int) = some R := by
      intro acc1 ha1 f hf
      have hl1 : acc1.length ≤ i * 4003 + 1 := by
        rw [ha1, List.length_append]
        by_cases h0 : 0 < i
        · rw [if_pos h0, List.length_singleton]; exact Nat.succ_le_succ hacc
        · rw [if_neg h0, List.length_nil]; exact Nat.le_succ_of_le hacc
      obtain ⟨g, rfl⟩ : ∃ g, f = g + 1 := ⟨f - 1, by omega⟩
      unfold chicaneref15_Join.j1
      rw [if_pos (by omega), if_pos (by omega), rd_at L i hil, hx, rplain_is x (by omega) g (by omega)]
      simp only [Option.bind_some]
      have quote : ∀ q : List UInt8, q.length ≤ 1 → (q = if WP.plain (bl x) = true then [] else [34]) → ∀ f, need ((L.drop (i + 1)).map bl) + x.size + 3006 ≤ f → chicaneref15_Join.j2 f L (ba acc1) (i : Int) (ba q) = some R := by
        intro q hq hqe f hf
        obtain ⟨g, rfl⟩ : ∃ g, f = g + 1 := ⟨f - 1, by omega⟩
        unfold chicaneref15_Join.j2
        rw [if_pos (by rw [ba_size, ba_size]; omega), ba_app]
        have := rjoin_l1 L i hil x hx hxs q hq R (need ((L.drop (i + 1)).map bl) + 3000) (by omega) (acc1 ++ q) (fun hm k' hk' => by
          have hqt : acc1 ++ q ++ WP.es (bl x) ++ q = acc ++ (if 0 < i then [32] else []) ++ WP.qt (bl x) := by
            rw [← ha1, hqe]
            unfold WP.qt
            by_cases hp : WP.plain (bl x) = true
            · rw [if_pos hp, if_pos hp]
              have : WP.es (bl x) = bl x := WP.es_none _ (plain_cn _ hp)
              rw [this]; simp
            · rw [if_neg hp, if_neg hp]; simp
          rw [hqt, ih (i + 1) _ (by omega) (by omega) (by
            have h1 := qt_len (bl x)
            rw [bl_len] at h1
            rw [← ha1, List.length_append]
            omega) k' (by omega), hR, hgood hm]) hbad (by rw [List.length_append]; omega) g 0 (by omega) (Nat.zero_le _) (by simp)
        simpa [WP.es] using this
      by_cases hp : WP.plain (bl x) = true
      · rw [if_pos hp]
        exact quote [] (by simp) (by rw [if_pos hp]) g (by omega)
      · rw [if_neg hp, son_34]
        exact quote [34] (by simp) (by rw [if_neg hp]) g (by omega)
    obtain ⟨g, rfl⟩ : ∃ g, f = g + 1 := ⟨f - 1, by omega⟩
    unfold chicaneref15_Join.l0
    rw [if_pos (by omega)]
    by_cases h0 : 0 < i
    · rw [if_pos (by omega), if_pos (by rw [ba_size]; omega)]
      have : ba acc ++ (⟨#[32]⟩ : ByteArray) = ba (acc ++ [32]) := ba_app acc [32]
      rw [this]
      exact main _ (by rw [if_pos h0]) g (by omega)
    · rw [if_neg (by omega)]
      exact main acc (by rw [if_neg h0, List.append_nil]) g (by omega)
theorem rj_join (ws : List (List UInt8)) : ∀ (i : Nat) (acc : List UInt8), rj i ws acc = if ws.all (·.all WP.may) = false then [] else
    if 256 < (acc ++ (if 0 < i ∧ ws ≠ [] then [32] else []) ++ WP.sep (ws.map WP.qt)).length then [] else acc ++ (if 0 < i ∧ ws ≠ [] then [32] else []) ++ WP.sep (ws.map WP.qt) := by
  induction ws with
  | nil => intro i acc; simp [rj, WP.sep]
  | cons s r ih =>
    intro i acc
    rw [rj]
    by_cases hm : s.all WP.may = false
    · rw [if_pos hm, if_pos (by rw [List.all_cons, hm]; rfl)]
    · have hm' : s.all WP.may = true := by simpa using hm
      rw [if_neg hm, ih (i + 1)]
      have e1 : (s :: r).all (·.all WP.may) = r.all (·.all WP.may) := by rw [List.all_cons, hm']; rfl
      rw [e1]
      have e2 : acc ++ (if 0 < i then [32] else []) ++ WP.qt s ++ (if 0 < i + 1 ∧ r ≠ [] then [32] else []) ++ WP.sep (r.map WP.qt) = acc ++ (if 0 < i ∧ s :: r ≠ [] then [32] else []) ++ WP.sep ((s :: r).map WP.qt) := by
        have h1 : (if 0 < i ∧ s :: r ≠ [] then ([32] : List UInt8) else []) = if 0 < i then [32] else [] := by
          by_cases h : 0 < i
          · rw [if_pos h, if_pos ⟨h, by simp⟩]
          · rw [if_neg h, if_neg (fun h2 => h h2.1)]
        rw [h1]
        cases r with
        | nil => simp [WP.sep]
        | cons b r => simp [WP.sep]
      rw [e2]
theorem rjoin_is (L : List ByteArray) (h : 16 < L.length ∨ ∀ x ∈ L, x.size ≤ 2000) (f : Nat) (hf : 100000 ≤ f) : chicaneref15_Join.f f L = some (ba (WP.join (L.map bl))) := by
  unfold chicaneref15_Join.f
  by_cases h16 : 16 < L.length
  · rw [if_pos (by omega)]
    unfold WP.join
    rw [if_pos (by simpa using h16)]
    rfl
  · have hsz := h.resolve_left h16
    rw [if_neg (by omega)]
    have hn : ∀ l : List ByteArray, (∀ x ∈ l, x.size ≤ 2000) → need (l.map bl) ≤ l.length * 2010 + 1 := by
      intro l
      induction l with
      | nil => intro _; decide
      | cons a r ih =>
        intro hl
        rw [need_cons, List.length_cons]
        have := ih (fun x hx => hl x (List.mem_cons_of_mem _ hx))
        have := hl a List.mem_cons_self
        omega
    have hn' := hn L hsz
    have := rjoin_l0 L (by omega) hsz L.length 0 [] (by omega) (Nat.zero_le _) (by simp) f (by rw [List.drop_zero]; omega)
    rw [List.drop_zero, rj_join] at this
    have e : (if 0 < 0 ∧ L.map bl ≠ [] then ([32] : List UInt8) else []) = [] := if_neg (fun h => by omega)
    rw [e, List.append_nil, List.nil_append] at this
    rw [show ba [] = (⟨#[]⟩ : ByteArray) from rfl, show ((0 : Nat) : Int) = 0 from rfl] at this
    rw [this]
    congr 1
    have e16 : ¬ 16 < (L.map bl).length := by simpa using h16
    unfold WP.join
    rw [if_neg e16]
end Go.Proofs.YtlglbpjccpdloaaGreatDoor.Ext
namespace Go.Proofs.YtlglbpjccpdloaaGreatDoor.POrdB
open Go.Proofs.YtlglbpjccpdloaaGreatDoor.Ext Go.Proofs.YtlglbpjccpdloaaGreatDoor.ToxZ Go.Proofs.YtlglbpjccpdloaaGreatDoor.PWrdA Go.RowKit Go.Proofs.YtlglbpjccpdloaaGreatDoorW.PrintWords Go.Proofs.YtlglbpjccpdloaaGreatDoorW.PrintLast Go.Proofs.YtlglbpjccpdloaaGreatDoorW.PrintMore
attribute [local go_sem] max2_int min2_int max_two min_two max_three min_three max_four min_four   -- for this text's walks alone
set_option linter.unusedVariables false
set_option linter.unusedSimpArgs false
theorem eqA27 (d : Nat) (w : World) (x0 y0 : Int) (x1 y1 : ByteArray) (x2 y2 : ByteArray) (x3 y3 : Int) (x4 y4 : ByteArray) (x5 y5 : Int) (x6 y6 : Bool) (x7 y7 : Int) (x8 y8 : Int) (x9 y9 : Int) :
  (Op.equalIn (d + 3) 27 (.agg #[.int .i64 x0, .string x1, .string x2, .int .i64 x3, .string x4, .int .i64 x5, .bool x6, .int .i64 x7, .int .i64 x8, .int .i64 x9]) (.agg #[.int .i64 y0, .string y1, .string y2, .int .i64 y3, .string y4, .int .i64 y5, .bool y6, .int .i64 y7, .int .i64 y8, .int .i64 y9])).run Tryz.prog w = .ok (x0 == y0 && (x1.toList == y1.toList && (x2.toList == y2.toList && (x3 == y3 && ((x4.toList == y4.toList && (x5 == y5 && (x6 == y6 && (x7 == y7 && (x8 == y8 && (x9 == y9))))))))))) w := by
 refine eqA_of Tryz.underlying27 (by kernel_rfl) ?_
 refine eqf_cons (by rfl) (by go_simp; rfl) (by go_simp; rfl) (by go_simp) ?_
 refine eqf_cons (by rfl) (by go_simp; rfl) (by go_simp; rfl) (by go_simp) ?_
 refine eqf_cons (by rfl) (by go_simp; rfl) (by go_simp; rfl) (by go_simp) ?_
 refine eqf_cons (by rfl) (by go_simp; rfl) (by go_simp; rfl) (by go_simp) ?_
 exact eqf_last (by rfl) (by go_simp) (by go_simp) (eqA25 (d + 0) w _ _ _ _ _ _ _ _ _ _ _ _)
end Go.Proofs.YtlglbpjccpdloaaGreatDoor.POrdB
namespace Go.Proofs.YtlglbpjccpdloaaGreatDoor.POrdB
open Go.Proofs.YtlglbpjccpdloaaGreatDoor.Ext Go.Proofs.YtlglbpjccpdloaaGreatDoor.ToxZ Go.Proofs.YtlglbpjccpdloaaGreatDoor.PWrdA Go.RowKit Go.Proofs.YtlglbpjccpdloaaGreatDoorW.PrintWords Go.Proofs.YtlglbpjccpdloaaGreatDoorW.PrintLast Go.Proofs.YtlglbpjccpdloaaGreatDoorW.PrintMore
attribute [local go_sem] max2_int min2_int max_two min_two max_three min_three max_four min_four   -- for this text's walks alone
set_option linter.unusedVariables false
set_option linter.unusedSimpArgs false
attribute [local go_sem high] eqA27
def chicaneref16_Text.f (k : Nat) (a0_0 : Int) (a0_1 : ByteArray) (a0_2 : ByteArray) (a0_3 : Int) (a0_4 : ByteArray) (a0_5 : Int) (a0_6 : Bool) (a0_7 : Int) (a0_8 : Int) (a0_9 : Int) : Option (ByteArray) := (chicaneref16_Words.f k a0_0 a0_1 a0_2 a0_3 a0_4 a0_5 a0_6 a0_7 a0_8 a0_9).bind fun t220 => ((chicaneref15_Join.f k t220).bind fun t223 => (some t223))
set_option maxHeartbeats 8000000 in
set_option maxRecDepth 100000 in
theorem chicaneref16_Text.calls (k : Nat) (a0_0 : Int) (a0_1 : ByteArray) (a0_2 : ByteArray) (a0_3 : Int) (a0_4 : ByteArray) (a0_5 : Int) (a0_6 : Bool) (a0_7 : Int) (a0_8 : Int) (a0_9 : Int) (r : ByteArray) (w : World) (h : chicaneref16_Text.f k a0_0 a0_1 a0_2 a0_3 a0_4 a0_5 a0_6 a0_7 a0_8 a0_9 = some r) :
  Calls Tryz.prog 15 #[.agg #[.int .i64 a0_0, .string a0_1, .string a0_2, .int .i64 a0_3, .string a0_4, .int .i64 a0_5, .bool a0_6, .int .i64 a0_7, .int .i64 a0_8, .int .i64 a0_9]] w fun e w' => e = .returned (.string r) ∧ Below w.heap.size w w' := by
 have hu31 := Tryz.underlying31
 have HB := Aside0.mk (Below.refl w.heap.size w)
 have H : ((chicaneref16_Words.f k a0_0 a0_1 a0_2 a0_3 a0_4 a0_5 a0_6 a0_7 a0_8 a0_9).bind fun t220 => ((chicaneref15_Join.f k t220).bind fun t223 => (some t223))) = some r := h
 clear h
 replace H := Option.bind_eq_some_iff.mp H
 obtain ⟨t220, A20, H⟩ := H
 replace H : ((chicaneref15_Join.f k t220).bind fun t223 => (some t223)) = some r := H
 have A2 := Aside0.mk A20
 clear A20
 replace H := Option.bind_eq_some_iff.mp H
 obtain ⟨t223, A30, H⟩ := H
 replace H : (some t223) = some r := H
 have A3 := Aside0.mk A30
 clear A30
 obtain rfl := Option.some.inj H
 go_enter Tryz.func15, Tryz.ntmps15
 go_wp2_with (first | ((with_reducible refine gate_dst (N := 1) rfl ?_); refine box_event ?hg (N := 1) ?hd (cs := #[.int .i64 a0_0, .string a0_1, .string a0_2, .int .i64 a0_3, .string a0_4, .int .i64 a0_5, .bool a0_6, .int .i64 a0_7, .int .i64 a0_8, .int .i64 a0_9]) (t := 31) ?hr ?_; (case hd => rfl); (case hg => rfl); (case hr => first | (go_simp; done) | (go_simp; rfl)); intro gb219 hg w4 hbox hb; have n0_ := Aside0.mk (below_step (by repeat (first | (with_reducible first | exact HB.out | apply below_alloc | apply pw_below_drewN | apply below_drew1) | exact HB.out)) hb); have n1_ := Aside0.mk (hbox); have n2_ := Aside0.mk ((by rw [hg]; exact (below_size (by repeat (first | (with_reducible first | exact HB.out | apply below_alloc | apply pw_below_drewN | apply below_drew1) | exact HB.out))) : w.heap.size ≤ gb219)); have n3_ := Aside0.mk ((by rw [hg]; exact (below_size (by repeat (first | (with_reducible first | exact HB.out | apply below_alloc | apply pw_below_drewN | apply below_drew1) | exact HB.out))) : w.heap.size ≤ gb219)); clear HB; have HB := n0_; have BK219 := n1_; have GW219 := n2_; have GE219 := n3_; clear n0_ n1_ n2_ n3_; clear hb hbox hg; have hcz5_0 : w4.cell? ⟨gb219, 0, none⟩ = some (.int .i64 a0_0) := (blk_cell BK219.out 0).trans rfl; have hcz5_1 : w4.cell? ⟨gb219, 1, none⟩ = some (.string a0_1) := (blk_cell BK219.out 1).trans rfl; have hcz5_2 : w4.cell? ⟨gb219, 2, none⟩ = some (.string a0_2) := (blk_cell BK219.out 2).trans rfl; have hcz5_3 : w4.cell? ⟨gb219, 3, none⟩ = some (.int .i64 a0_3) := (blk_cell BK219.out 3).trans rfl; have hcz5_4 : w4.cell? ⟨gb219, 4, none⟩ = some (.string a0_4) := (blk_cell BK219.out 4).trans rfl; have hcz5_5 : w4.cell? ⟨gb219, 5, none⟩ = some (.int .i64 a0_5) := (blk_cell BK219.out 5).trans rfl; have hcz5_6 : w4.cell? ⟨gb219, 6, none⟩ = some (.bool a0_6) := (blk_cell BK219.out 6).trans rfl; have hcz5_7 : w4.cell? ⟨gb219, 7, none⟩ = some (.int .i64 a0_7) := (blk_cell BK219.out 7).trans rfl; have hcz5_8 : w4.cell? ⟨gb219, 8, none⟩ = some (.int .i64 a0_8) := (blk_cell BK219.out 8).trans rfl; have hcz5_9 : w4.cell? ⟨gb219, 9, none⟩ = some (.int .i64 a0_9) := (blk_cell BK219.out 9).trans rfl; have hfz5_0 := blk_frozen BK219.out 0; have hfz5_1 := blk_frozen BK219.out 1; have hfz5_2 := blk_frozen BK219.out 2; have hfz5_3 := blk_frozen BK219.out 3; have hfz5_4 := blk_frozen BK219.out 4; have hfz5_5 := blk_frozen BK219.out 5; have hfz5_6 := blk_frozen BK219.out 6; have hfz5_7 := blk_frozen BK219.out 7; have hfz5_8 := blk_frozen BK219.out 8; have hfz5_9 := blk_frozen BK219.out 9) | ((with_reducible refine gate_callee (f := 13) rfl ?_); refine goesL_ (some 4) rfl rfl Tryz.func13 (by kernel_rfl) rfl #[.agg #[.int .i64 a0_0, .string a0_1, .string a0_2, .int .i64 a0_3, .string a0_4, .int .i64 a0_5, .bool a0_6, .int .i64 a0_7, .int .i64 a0_8, .int .i64 a0_9]] rfl (by (try simp only [List.map_toArray, List.map_cons, List.map_nil]); first | done | rfl | (simp only [List.length_drop, List.length_take]; rfl)) ?_; (with_reducible refine (chicaneref16_Words.calls k a0_0 a0_1 a0_2 a0_3 a0_4 a0_5 a0_6 a0_7 a0_8 a0_9 t220 _ A2.out).mono ?_); rintro e w6 ⟨v221, rfl, ho0, hb⟩; refine ⟨_, rfl, ?_⟩; have n0_ := Aside0.mk (Kd.R_lower ho0 (below_size (by repeat (first | (with_reducible first | exact HB.out | apply below_alloc | apply pw_below_drewN | apply below_drew1 | refine below_set ?_ GE219.out) | exact HB.out)))); have n1_ := Aside0.mk (blk_below (g := gb219) (o := .cells #[.int .i64 a0_0, .string a0_1, .string a0_2, .int .i64 a0_3, .string a0_4, .int .i64 a0_5, .bool a0_6, .int .i64 a0_7, .int .i64 a0_8, .int .i64 a0_9] 31 (0, 0)) (by (with_reducible repeat (first | refine blk_drewN ?_ _ | refine blk_drew ?_ | refine blk_alloc ?_ _)); exact BK219.out) hb); have n2_ := Aside0.mk (below_step (by repeat (first | (with_reducible first | exact HB.out | apply below_alloc | apply pw_below_drewN | apply below_drew1 | refine below_set ?_ GE219.out) | exact HB.out)) hb); clear BK219; clear HB; have HO222 := n0_; have BK219 := n1_; have HB := n2_; clear n0_ n1_ n2_; (try clear hb); (try clear hb2); (try clear hk); (try clear hi); (try clear ho0); obtain ⟨Ao7, co7, eo7⟩ := Kd.R_slice HO222.out; subst eo7) | ((with_reducible refine gate_callee (f := 42) rfl ?_); refine goesL_ (some 5) rfl rfl Tryz.func42 (by kernel_rfl) rfl #[.slice Ao7 t220.length co7] rfl (by (try simp only [List.map_toArray, List.map_cons, List.map_nil]); first | done | rfl | (simp only [List.length_drop, List.length_take]; rfl)) ?_; (with_reducible refine (chicaneref15_Join.calls k _ _ t220 t223 _ ?side1 ?side2 A3.out).mono ?_); (case side1 => repeat (first | exact (Kd.R_reads' HO222.out).2.2 | (with_reducible refine Kd.C_alloc ?_ _) | (with_reducible refine Kd.C_drewN ?_ _) | (with_reducible refine Kd.C_drew ?_))); (case side2 => exact (Kd.R_reads' HO222.out).2.1); rintro e w8 ⟨rfl, hb⟩; refine ⟨_, rfl, ?_⟩; have n0_ := Aside0.mk (Kd.R_below (by (with_reducible repeat (first | apply Kd.R_alloc | apply Kd.R_drewN | apply Kd.R_drew)); exact HO222.out) hb); have n1_ := Aside0.mk (blk_below (g := gb219) (o := .cells #[.int .i64 a0_0, .string a0_1, .string a0_2, .int .i64 a0_3, .string a0_4, .int .i64 a0_5, .bool a0_6, .int .i64 a0_7, .int .i64 a0_8, .int .i64 a0_9] 31 (0, 0)) (by (with_reducible repeat (first | refine blk_drewN ?_ _ | refine blk_drew ?_ | refine blk_alloc ?_ _)); exact BK219.out) hb); have n2_ := Aside0.mk (below_step (by repeat (first | (with_reducible first | exact HB.out | apply below_alloc | apply pw_below_drewN | apply below_drew1 | refine below_set ?_ GE219.out) | exact HB.out)) hb); clear HO222; clear BK219; clear HB; have HO222 := n0_; have BK219 := n1_; have HB := n2_; clear n0_ n1_ n2_; (try clear hb); (try clear hb2); (try clear hk); (try clear hi)))
 go_ret
 exact ⟨by first | rfl | (simp [errW_none, errW_some] <;> rfl) | (simp [*, errW_none, errW_some] <;> rfl), by repeat (first | (with_reducible first | exact HB.out | apply below_alloc | apply pw_below_drewN | apply below_drew1 | refine below_set ?_ GE219.out) | exact HB.out)⟩
def order_Text.f (k : Nat) (a0_0 : Int) (a0_1 : ByteArray) (a0_2 : ByteArray) (a0_3 : Int) (a0_4 : ByteArray) (a0_5 : Int) (a0_6 : Bool) (a0_7 : Int) (a0_8 : Int) (a0_9 : Int) : Option (ByteArray) := (order_Words.f k a0_0 a0_1 a0_2 a0_3 a0_4 a0_5 a0_6 a0_7 a0_8 a0_9).bind fun t225 => ((words_Join.f t225).bind fun t228 => (some t228))
theorem order_Text.mono : ∀ a0 a1 a2 a3 a4 a5 a6 a7 a8 a9 k, LeO (order_Text.f k a0 a1 a2 a3 a4 a5 a6 a7 a8 a9) (order_Text.f (k + 1) a0 a1 a2 a3 a4 a5 a6 a7 a8 a9) := by
 intro a0 a1 a2 a3 a4 a5 a6 a7 a8 a9 k
 unfold order_Text.f
 repeat' first
   | (with_reducible exact order_Words.mono _ _ _ _ _ _ _ _ _ _ _)
   | (with_reducible exact LeO.refl _)
   | (with_reducible exact LeO.none _)
   | (with_reducible refine LeO.ite ?_ ?_)
   | (with_reducible refine LeO.bind ?_ (fun _ => ?_))
   | exact order_Words.mono _ _ _ _ _ _ _ _ _ _ _
   | exact LeO.none _
   | refine LeO.ite ?_ ?_
   | refine LeO.bind ?_ (fun _ => ?_)
set_option maxHeartbeats 8000000 in
set_option maxRecDepth 100000 in
theorem order_Text.calls (k : Nat) (a0_0 : Int) (a0_1 : ByteArray) (a0_2 : ByteArray) (a0_3 : Int) (a0_4 : ByteArray) (a0_5 : Int) (a0_6 : Bool) (a0_7 : Int) (a0_8 : Int) (a0_9 : Int) (r : ByteArray) (w : World) (hT : Aside0 (Ext.Tab w)) (h : order_Text.f k a0_0 a0_1 a0_2 a0_3 a0_4 a0_5 a0_6 a0_7 a0_8 a0_9 = some r) :
  Calls Tryz.prog 14 #[.agg #[.int .i64 a0_0, .string a0_1, .string a0_2, .int .i64 a0_3, .string a0_4, .int .i64 a0_5, .bool a0_6, .int .i64 a0_7, .int .i64 a0_8, .int .i64 a0_9]] w fun e w' => e = .returned (.string r) ∧ Below w.heap.size w w' := by
 have hu27 := Tryz.underlying27
 have HB := Aside0.mk (Below.refl w.heap.size w)
 have H : ((order_Words.f k a0_0 a0_1 a0_2 a0_3 a0_4 a0_5 a0_6 a0_7 a0_8 a0_9).bind fun t225 => ((words_Join.f t225).bind fun t228 => (some t228))) = some r := h
 clear h
 replace H := Option.bind_eq_some_iff.mp H
 obtain ⟨t225, A20, H⟩ := H
 replace H : ((words_Join.f t225).bind fun t228 => (some t228)) = some r := H
 have A2 := Aside0.mk A20
 clear A20
 replace H := Option.bind_eq_some_iff.mp H
 obtain ⟨t228, A30, H⟩ := H
 replace H : (some t228) = some r := H
 have A3 := Aside0.mk A30
 clear A30
 obtain rfl := Option.some.inj H
 go_enter Tryz.func14, Tryz.ntmps14
 go_wp2_with (first | ((with_reducible refine gate_dst (N := 1) rfl ?_); refine box_event ?hg (N := 1) ?hd (cs := #[.int .i64 a0_0, .string a0_1, .string a0_2, .int .i64 a0_3, .string a0_4, .int .i64 a0_5, .bool a0_6, .int .i64 a0_7, .int .i64 a0_8, .int .i64 a0_9]) (t := 27) ?hr ?_; (case hd => rfl); (case hg => rfl); (case hr => first | (go_simp; done) | (go_simp; rfl)); intro gb224 hg w4 hbox hb; have n0_ := Aside0.mk (below_step (by repeat (first | (with_reducible first | exact HB.out | apply below_alloc | apply pw_below_drewN | apply below_drew1) | exact HB.out)) hb); have n1_ := Aside0.mk (hbox); have n2_ := Aside0.mk ((by rw [hg]; exact (below_size (by repeat (first | (with_reducible first | exact HB.out | apply below_alloc | apply pw_below_drewN | apply below_drew1) | exact HB.out))) : w.heap.size ≤ gb224)); have n3_ := Aside0.mk ((by rw [hg]; exact (below_size (by repeat (first | (with_reducible first | exact HB.out | apply below_alloc | apply pw_below_drewN | apply below_drew1) | exact HB.out))) : w.heap.size ≤ gb224)); clear HB; have HB := n0_; have BK224 := n1_; have GW224 := n2_; have GE224 := n3_; clear n0_ n1_ n2_ n3_; clear hb hbox hg; have hcz5_0 : w4.cell? ⟨gb224, 0, none⟩ = some (.int .i64 a0_0) := (blk_cell BK224.out 0).trans rfl; have hcz5_1 : w4.cell? ⟨gb224, 1, none⟩ = some (.string a0_1) := (blk_cell BK224.out 1).trans rfl; have hcz5_2 : w4.cell? ⟨gb224, 2, none⟩ = some (.string a0_2) := (blk_cell BK224.out 2).trans rfl; have hcz5_3 : w4.cell? ⟨gb224, 3, none⟩ = some (.int .i64 a0_3) := (blk_cell BK224.out 3).trans rfl; have hcz5_4 : w4.cell? ⟨gb224, 4, none⟩ = some (.string a0_4) := (blk_cell BK224.out 4).trans rfl; have hcz5_5 : w4.cell? ⟨gb224, 5, none⟩ = some (.int .i64 a0_5) := (blk_cell BK224.out 5).trans rfl; have hcz5_6 : w4.cell? ⟨gb224, 6, none⟩ = some (.bool a0_6) := (blk_cell BK224.out 6).trans rfl; have hcz5_7 : w4.cell? ⟨gb224, 7, none⟩ = some (.int .i64 a0_7) := (blk_cell BK224.out 7).trans rfl; have hcz5_8 : w4.cell? ⟨gb224, 8, none⟩ = some (.int .i64 a0_8) := (blk_cell BK224.out 8).trans rfl; have hcz5_9 : w4.cell? ⟨gb224, 9, none⟩ = some (.int .i64 a0_9) := (blk_cell BK224.out 9).trans rfl; have hfz5_0 := blk_frozen BK224.out 0; have hfz5_1 := blk_frozen BK224.out 1; have hfz5_2 := blk_frozen BK224.out 2; have hfz5_3 := blk_frozen BK224.out 3; have hfz5_4 := blk_frozen BK224.out 4; have hfz5_5 := blk_frozen BK224.out 5; have hfz5_6 := blk_frozen BK224.out 6; have hfz5_7 := blk_frozen BK224.out 7; have hfz5_8 := blk_frozen BK224.out 8; have hfz5_9 := blk_frozen BK224.out 9) | ((with_reducible refine gate_callee (f := 12) rfl ?_); refine goesL_ (some 4) rfl rfl Tryz.func12 (by kernel_rfl) rfl #[.agg #[.int .i64 a0_0, .string a0_1, .string a0_2, .int .i64 a0_3, .string a0_4, .int .i64 a0_5, .bool a0_6, .int .i64 a0_7, .int .i64 a0_8, .int .i64 a0_9]] rfl (by (try simp only [List.map_toArray, List.map_cons, List.map_nil]); first | done | rfl | (simp only [List.length_drop, List.length_take]; rfl)) ?_; (with_reducible refine (order_Words.calls k a0_0 a0_1 a0_2 a0_3 a0_4 a0_5 a0_6 a0_7 a0_8 a0_9 t225 _ (⟨Ext.tab_below hT.out (by repeat (first | (with_reducible first | exact HB.out | apply below_alloc | apply pw_below_drewN | apply below_drew1 | refine below_set ?_ GE224.out) | exact HB.out))⟩) A2.out).mono ?_); rintro e w6 ⟨v226, rfl, ho0, hb⟩; refine ⟨_, rfl, ?_⟩; have n0_ := Aside0.mk (Kd.R_lower ho0 (below_size (by repeat (first | (with_reducible first | exact HB.out | apply below_alloc | apply pw_below_drewN | apply below_drew1 | refine below_set ?_ GE224.out) | exact HB.out)))); have n1_ := Aside0.mk (blk_below (g := gb224) (o := .cells #[.int .i64 a0_0, .string a0_1, .string a0_2, .int .i64 a0_3, .string a0_4, .int .i64 a0_5, .bool a0_6, .int .i64 a0_7, .int .i64 a0_8, .int .i64 a0_9] 27 (0, 0)) (by (with_reducible repeat (first | refine blk_drewN ?_ _ | refine blk_drew ?_ | refine blk_alloc ?_ _)); exact BK224.out) hb); have n2_ := Aside0.mk (below_step (by repeat (first | (with_reducible first | exact HB.out | apply below_alloc | apply pw_below_drewN | apply below_drew1 | refine below_set ?_ GE224.out) | exact HB.out)) hb); clear BK224; clear HB; have HO227 := n0_; have BK224 := n1_; have HB := n2_; clear n0_ n1_ n2_; (try clear hb); (try clear hb2); (try clear hk); (try clear hi); (try clear ho0); obtain ⟨Ao7, co7, eo7⟩ := Kd.R_slice HO227.out; subst eo7) | ((with_reducible refine gate_callee (f := 41) rfl ?_); refine goesL_ (some 5) rfl rfl Tryz.func41 (by kernel_rfl) rfl #[.slice Ao7 t225.length co7] rfl (by (try simp only [List.map_toArray, List.map_cons, List.map_nil]); first | done | rfl | (simp only [List.length_drop, List.length_take]; rfl)) ?_; (with_reducible refine (words_Join.calls _ _ t225 t228 _ ?side1 ?side2 A3.out).mono ?_); (case side1 => repeat (first | exact (Kd.R_reads' HO227.out).2.2 | (with_reducible refine Kd.C_alloc ?_ _) | (with_reducible refine Kd.C_drewN ?_ _) | (with_reducible refine Kd.C_drew ?_))); (case side2 => exact (Kd.R_reads' HO227.out).2.1); rintro e w8 ⟨rfl, hb⟩; refine ⟨_, rfl, ?_⟩; have n0_ := Aside0.mk (Kd.R_below (by (with_reducible repeat (first | apply Kd.R_alloc | apply Kd.R_drewN | apply Kd.R_drew)); exact HO227.out) hb); have n1_ := Aside0.mk (blk_below (g := gb224) (o := .cells #[.int .i64 a0_0, .string a0_1, .string a0_2, .int .i64 a0_3, .string a0_4, .int .i64 a0_5, .bool a0_6, .int .i64 a0_7, .int .i64 a0_8, .int .i64 a0_9] 27 (0, 0)) (by (with_reducible repeat (first | refine blk_drewN ?_ _ | refine blk_drew ?_ | refine blk_alloc ?_ _)); exact BK224.out) hb); have n2_ := Aside0.mk (below_step (by repeat (first | (with_reducible first | exact HB.out | apply below_alloc | apply pw_below_drewN | apply below_drew1 | refine below_set ?_ GE224.out) | exact HB.out)) hb); clear HO227; clear BK224; clear HB; have HO227 := n0_; have BK224 := n1_; have HB := n2_; clear n0_ n1_ n2_; (try clear hb); (try clear hb2); (try clear hk); (try clear hi)))
 go_ret
 exact ⟨by first | rfl | (simp [errW_none, errW_some] <;> rfl) | (simp [*, errW_none, errW_some] <;> rfl), by repeat (first | (with_reducible first | exact HB.out | apply below_alloc | apply pw_below_drewN | apply below_drew1 | refine below_set ?_ GE224.out) | exact HB.out)⟩
def order_Parse.f (a0 : ByteArray) : Option (Int × ByteArray × ByteArray × Int × ByteArray × Int × Bool × Int × Int × Int × Int) := (words_Split.f a0).bind fun bt230 => (if bt230.2.2 = 0 then ((order_FromWords.f bt230.1).bind fun bt235 => (some (bt235.1, bt235.2.1, bt235.2.2.1, bt235.2.2.2.1, bt235.2.2.2.2.1, bt235.2.2.2.2.2.1, bt235.2.2.2.2.2.2.1, bt235.2.2.2.2.2.2.2.1, bt235.2.2.2.2.2.2.2.2.1, bt235.2.2.2.2.2.2.2.2.2.1, bt235.2.2.2.2.2.2.2.2.2.2))) else (some (0, (⟨#[]⟩ : ByteArray), (⟨#[]⟩ : ByteArray), 0, (⟨#[]⟩ : ByteArray), 0, false, 0, 0, 0, bt230.2.2)))
set_option maxHeartbeats 8000000 in
set_option maxRecDepth 100000 in
theorem order_Parse.calls (a0 : ByteArray) (r1 : Int) (r2 : ByteArray) (r3 : ByteArray) (r4 : Int) (r5 : ByteArray) (r6 : Int) (r7 : Bool) (r8 : Int) (r9 : Int) (r10 : Int) (r11 : Int) (w : World) (hT : Aside0 (Ext.Tab w)) (h : order_Parse.f a0 = some (r1, r2, r3, r4, r5, r6, r7, r8, r9, r10, r11)) :
  Calls Tryz.prog 17 #[.string a0] w fun e w' => e = .returned (.tuple #[.agg #[.int .i64 r1, .string r2, .string r3, .int .i64 r4, .string r5, .int .i64 r6, .bool r7, .int .i64 r8, .int .i64 r9, .int .i64 r10], .int .i64 r11]) ∧ Below w.heap.size w w' := by
 have hu27 := Tryz.underlying27
 have HB := Aside0.mk (Below.refl w.heap.size w)
 have H : ((words_Split.f a0).bind fun bt230 => (if bt230.2.2 = 0 then ((order_FromWords.f bt230.1).bind fun bt235 => (some (bt235.1, bt235.2.1, bt235.2.2.1, bt235.2.2.2.1, bt235.2.2.2.2.1, bt235.2.2.2.2.2.1, bt235.2.2.2.2.2.2.1, bt235.2.2.2.2.2.2.2.1, bt235.2.2.2.2.2.2.2.2.1, bt235.2.2.2.2.2.2.2.2.2.1, bt235.2.2.2.2.2.2.2.2.2.2))) else (some (0, (⟨#[]⟩ : ByteArray), (⟨#[]⟩ : ByteArray), 0, (⟨#[]⟩ : ByteArray), 0, false, 0, 0, 0, bt230.2.2)))) = some (r1, r2, r3, r4, r5, r6, r7, r8, r9, r10, r11) := h
 clear h
 replace H := Option.bind_eq_some_iff.mp H
 obtain ⟨⟨t230, t231, t232⟩, A20, H⟩ := H
 replace H : (if t232 = 0 then ((order_FromWords.f t230).bind fun bt235 => (some (bt235.1, bt235.2.1, bt235.2.2.1, bt235.2.2.2.1, bt235.2.2.2.2.1, bt235.2.2.2.2.2.1, bt235.2.2.2.2.2.2.1, bt235.2.2.2.2.2.2.2.1, bt235.2.2.2.2.2.2.2.2.1, bt235.2.2.2.2.2.2.2.2.2.1, bt235.2.2.2.2.2.2.2.2.2.2))) else (some (0, (⟨#[]⟩ : ByteArray), (⟨#[]⟩ : ByteArray), 0, (⟨#[]⟩ : ByteArray), 0, false, 0, 0, 0, t232))) = some (r1, r2, r3, r4, r5, r6, r7, r8, r9, r10, r11) := H
 have A2 := Aside0.mk A20
 clear A20
 by_cases c3 : t232 = 0
 ·rw [if_pos c3] at H
  have c3b0 : (t232 == 0) = true := beq_iff_eq.mpr c3
  have c3b1 : (t232 != 0) = false := bne_eq_false_iff_eq.mpr c3
  clear c3
  replace H := Option.bind_eq_some_iff.mp H
  obtain ⟨⟨t235, t236, t237, t238, t239, t240, t241, t242, t243, t244, t245⟩, A40, H⟩ := H
  replace H : (some (t235, t236, t237, t238, t239, t240, t241, t242, t243, t244, t245)) = some (r1, r2, r3, r4, r5, r6, r7, r8, r9, r10, r11) := H
  have A4 := Aside0.mk A40
  clear A40
  simp only [Option.some.injEq, Prod.mk.injEq] at H
  obtain ⟨rfl, rfl, rfl, rfl, rfl, rfl, rfl, rfl, rfl, rfl, rfl⟩ := H
  go_enter Tryz.func17, Tryz.ntmps17
  go_wp2_with (first | ((with_reducible refine gate_dst (N := 2) rfl ?_); refine box_event ?hg (N := 2) ?hd (cs := #[.int .i64 0, .string (⟨#[]⟩ : ByteArray), .string (⟨#[]⟩ : ByteArray), .int .i64 0, .string (⟨#[]⟩ : ByteArray), .int .i64 0, .bool false, .int .i64 0, .int .i64 0, .int .i64 0]) (t := 27) ?hr ?_; (case hd => rfl); (case hg => rfl); (case hr => first | (go_simp; done) | (go_simp; rfl)); intro gb229 hg w5 hbox hb; have n0_ := Aside0.mk (below_step (by repeat (first | (with_reducible first | exact HB.out | apply below_alloc | apply pw_below_drewN | apply below_drew1) | exact HB.out)) hb); have n1_ := Aside0.mk (hbox); have n2_ := Aside0.mk ((by rw [hg]; exact (below_size (by repeat (first | (with_reducible first | exact HB.out | apply below_alloc | apply pw_below_drewN | apply below_drew1) | exact HB.out))) : w.heap.size ≤ gb229)); have n3_ := Aside0.mk ((by rw [hg]; exact (below_size (by repeat (first | (with_reducible first | exact HB.out | apply below_alloc | apply pw_below_drewN | apply below_drew1) | exact HB.out))) : w.heap.size ≤ gb229)); clear HB; have HB := n0_; have BK229 := n1_; have GW229 := n2_; have GE229 := n3_; clear n0_ n1_ n2_ n3_; clear hb hbox hg) | ((with_reducible refine gate_callee (f := 44) rfl ?_); refine goesL_ (some 9) rfl rfl Tryz.func44 (by kernel_rfl) rfl #[.string a0] rfl (by (try simp only [List.map_toArray, List.map_cons, List.map_nil]); first | done | rfl | (simp only [List.length_drop, List.length_take]; rfl)) ?_; (with_reducible refine (words_Split.calls a0 t230 t231 t232 _ A2.out).mono ?_); rintro e w6 ⟨v233, rfl, ho0, hb⟩; refine ⟨_, rfl, ?_⟩; have n0_ := Aside0.mk (Kd.R_lower ho0 (below_size (by repeat (first | (with_reducible first | exact HB.out | apply below_alloc | apply pw_below_drewN | apply below_drew1 | refine below_set ?_ GE229.out) | exact HB.out)))); have n1_ := Aside0.mk (blk_below (g := gb229) (o := .cells #[.int .i64 0, .string (⟨#[]⟩ : ByteArray), .string (⟨#[]⟩ : ByteArray), .int .i64 0, .string (⟨#[]⟩ : ByteArray), .int .i64 0, .bool false, .int .i64 0, .int .i64 0, .int .i64 0] 27 (0, 0)) (by (with_reducible repeat (first | refine blk_drewN ?_ _ | refine blk_drew ?_ | refine blk_alloc ?_ _)); exact BK229.out) hb); have n2_ := Aside0.mk (below_step (by repeat (first | (with_reducible first | exact HB.out | apply below_alloc | apply pw_below_drewN | apply below_drew1 | refine below_set ?_ GE229.out) | exact HB.out)) hb); clear BK229; clear HB; have HO234 := n0_; have BK229 := n1_; have HB := n2_; clear n0_ n1_ n2_; (try clear hb); (try clear hb2); (try clear hk); (try clear hi); (try clear ho0); obtain ⟨Ao7, co7, eo7⟩ := Kd.R_slice HO234.out; subst eo7) | ((with_reducible refine gate_callee (f := 9) rfl ?_); refine goesL_ (some 18) rfl rfl Tryz.func9 (by kernel_rfl) rfl #[.slice Ao7 t230.length co7] rfl (by (try simp only [List.map_toArray, List.map_cons, List.map_nil]); first | done | rfl | (simp only [List.length_drop, List.length_take]; rfl)) ?_; (with_reducible refine (order_FromWords.calls _ _ t230 t235 t236 t237 t238 t239 t240 t241 t242 t243 t244 t245 _ ?side1 ?side2 (⟨Ext.tab_below hT.out (by repeat (first | (with_reducible first | exact HB.out | apply below_alloc | apply pw_below_drewN | apply below_drew1 | refine below_set ?_ GE229.out) | exact HB.out))⟩) A4.out).mono ?_); (case side1 => repeat (first | exact (Kd.R_reads' HO234.out).2.2 | (with_reducible refine Kd.C_alloc ?_ _) | (with_reducible refine Kd.C_drewN ?_ _) | (with_reducible refine Kd.C_drew ?_))); (case side2 => exact (Kd.R_reads' HO234.out).2.1); rintro e w8 ⟨rfl, hb⟩; refine ⟨_, rfl, ?_⟩; have n0_ := Aside0.mk (Kd.R_below (by (with_reducible repeat (first | apply Kd.R_alloc | apply Kd.R_drewN | apply Kd.R_drew)); exact HO234.out) hb); have n1_ := Aside0.mk (blk_below (g := gb229) (o := .cells #[.int .i64 0, .string (⟨#[]⟩ : ByteArray), .string (⟨#[]⟩ : ByteArray), .int .i64 0, .string (⟨#[]⟩ : ByteArray), .int .i64 0, .bool false, .int .i64 0, .int .i64 0, .int .i64 0] 27 (0, 0)) (by (with_reducible repeat (first | refine blk_drewN ?_ _ | refine blk_drew ?_ | refine blk_alloc ?_ _)); exact BK229.out) hb); have n2_ := Aside0.mk (below_step (by repeat (first | (with_reducible first | exact HB.out | apply below_alloc | apply pw_below_drewN | apply below_drew1 | refine below_set ?_ GE229.out) | exact HB.out)) hb); clear HO234; clear BK229; clear HB; have HO234 := n0_; have BK229 := n1_; have HB := n2_; clear n0_ n1_ n2_; (try clear hb); (try clear hb2); (try clear hk); (try clear hi); have hcz9_0 : w8.cell? ⟨gb229, 0, none⟩ = some (.int .i64 0) := (blk_cell BK229.out 0).trans rfl; have hcz9_1 : w8.cell? ⟨gb229, 1, none⟩ = some (.string (⟨#[]⟩ : ByteArray)) := (blk_cell BK229.out 1).trans rfl; have hcz9_2 : w8.cell? ⟨gb229, 2, none⟩ = some (.string (⟨#[]⟩ : ByteArray)) := (blk_cell BK229.out 2).trans rfl; have hcz9_3 : w8.cell? ⟨gb229, 3, none⟩ = some (.int .i64 0) := (blk_cell BK229.out 3).trans rfl; have hcz9_4 : w8.cell? ⟨gb229, 4, none⟩ = some (.string (⟨#[]⟩ : ByteArray)) := (blk_cell BK229.out 4).trans rfl; have hcz9_5 : w8.cell? ⟨gb229, 5, none⟩ = some (.int .i64 0) := (blk_cell BK229.out 5).trans rfl; have hcz9_6 : w8.cell? ⟨gb229, 6, none⟩ = some (.bool false) := (blk_cell BK229.out 6).trans rfl; have hcz9_7 : w8.cell? ⟨gb229, 7, none⟩ = some (.int .i64 0) := (blk_cell BK229.out 7).trans rfl; have hcz9_8 : w8.cell? ⟨gb229, 8, none⟩ = some (.int .i64 0) := (blk_cell BK229.out 8).trans rfl; have hcz9_9 : w8.cell? ⟨gb229, 9, none⟩ = some (.int .i64 0) := (blk_cell BK229.out 9).trans rfl; have hfz9_0 := blk_frozen BK229.out 0; have hfz9_1 := blk_frozen BK229.out 1; have hfz9_2 := blk_frozen BK229.out 2; have hfz9_3 := blk_frozen BK229.out 3; have hfz9_4 := blk_frozen BK229.out 4; have hfz9_5 := blk_frozen BK229.out 5; have hfz9_6 := blk_frozen BK229.out 6; have hfz9_7 := blk_frozen BK229.out 7; have hfz9_8 := blk_frozen BK229.out 8; have hfz9_9 := blk_frozen BK229.out 9))
  refine bodyPost_ret (results_ct rfl _ _ gb229 27 #[.int .i64 t235, .string t236, .string t237, .int .i64 t238, .string t239, .int .i64 t240, .bool t241, .int .i64 t242, .int .i64 t243, .int .i64 t244] (0, 0) _ rfl (by (with_reducible repeat (first | refine blk_drewN ?_ _ | refine blk_drew ?_ | refine blk_alloc ?_ _)); refine blk_put (cs := #[.int .i64 t235, .string t236, .string t237, .int .i64 t238, .string t239, .int .i64 t240, .bool t241, .int .i64 t242, .int .i64 t243, .int .i64 0]) ?_ 9 _ rfl; (with_reducible repeat (first | refine blk_drewN ?_ _ | refine blk_drew ?_ | refine blk_alloc ?_ _)); refine blk_put (cs := #[.int .i64 t235, .string t236, .string t237, .int .i64 t238, .string t239, .int .i64 t240, .bool t241, .int .i64 t242, .int .i64 0, .int .i64 0]) ?_ 8 _ rfl; (with_reducible repeat (first | refine blk_drewN ?_ _ | refine blk_drew ?_ | refine blk_alloc ?_ _)); refine blk_put (cs := #[.int .i64 t235, .string t236, .string t237, .int .i64 t238, .string t239, .int .i64 t240, .bool t241, .int .i64 0, .int .i64 0, .int .i64 0]) ?_ 7 _ rfl; (with_reducible repeat (first | refine blk_drewN ?_ _ | refine blk_drew ?_ | refine blk_alloc ?_ _)); refine blk_put (cs := #[.int .i64 t235, .string t236, .string t237, .int .i64 t238, .string t239, .int .i64 t240, .bool false, .int .i64 0, .int .i64 0, .int .i64 0]) ?_ 6 _ rfl; (with_reducible repeat (first | refine blk_drewN ?_ _ | refine blk_drew ?_ | refine blk_alloc ?_ _)); refine blk_put (cs := #[.int .i64 t235, .string t236, .string t237, .int .i64 t238, .string t239, .int .i64 0, .bool false, .int .i64 0, .int .i64 0, .int .i64 0]) ?_ 5 _ rfl; (with_reducible repeat (first | refine blk_drewN ?_ _ | refine blk_drew ?_ | refine blk_alloc ?_ _)); refine blk_put (cs := #[.int .i64 t235, .string t236, .string t237, .int .i64 t238, .string (⟨#[]⟩ : ByteArray), .int .i64 0, .bool false, .int .i64 0, .int .i64 0, .int .i64 0]) ?_ 4 _ rfl; (with_reducible repeat (first | refine blk_drewN ?_ _ | refine blk_drew ?_ | refine blk_alloc ?_ _)); refine blk_put (cs := #[.int .i64 t235, .string t236, .string t237, .int .i64 0, .string (⟨#[]⟩ : ByteArray), .int .i64 0, .bool false, .int .i64 0, .int .i64 0, .int .i64 0]) ?_ 3 _ rfl; (with_reducible repeat (first | refine blk_drewN ?_ _ | refine blk_drew ?_ | refine blk_alloc ?_ _)); refine blk_put (cs := #[.int .i64 t235, .string t236, .string (⟨#[]⟩ : ByteArray), .int .i64 0, .string (⟨#[]⟩ : ByteArray), .int .i64 0, .bool false, .int .i64 0, .int .i64 0, .int .i64 0]) ?_ 2 _ rfl; (with_reducible repeat (first | refine blk_drewN ?_ _ | refine blk_drew ?_ | refine blk_alloc ?_ _)); refine blk_put (cs := #[.int .i64 t235, .string (⟨#[]⟩ : ByteArray), .string (⟨#[]⟩ : ByteArray), .int .i64 0, .string (⟨#[]⟩ : ByteArray), .int .i64 0, .bool false, .int .i64 0, .int .i64 0, .int .i64 0]) ?_ 1 _ rfl; (with_reducible repeat (first | refine blk_drewN ?_ _ | refine blk_drew ?_ | refine blk_alloc ?_ _)); refine blk_put (cs := #[.int .i64 0, .string (⟨#[]⟩ : ByteArray), .string (⟨#[]⟩ : ByteArray), .int .i64 0, .string (⟨#[]⟩ : ByteArray), .int .i64 0, .bool false, .int .i64 0, .int .i64 0, .int .i64 0]) ?_ 0 _ rfl; (with_reducible repeat (first | refine blk_drewN ?_ _ | refine blk_drew ?_ | refine blk_alloc ?_ _)); exact BK229.out) Tryz.underlying27 rfl (by kernel_rfl)) rfl ?_
  exact ⟨by first | rfl | (simp [errW_none, errW_some] <;> rfl) | (simp [*, errW_none, errW_some] <;> rfl), by repeat (first | (with_reducible first | exact HB.out | apply below_alloc | apply pw_below_drewN | apply below_drew1 | refine below_set ?_ GE229.out) | exact HB.out)⟩
 ·rw [if_neg c3] at H
  have c3b0 : (t232 == 0) = false := beq_eq_false_iff_ne.mpr c3
  have c3b1 : (t232 != 0) = true := bne_iff_ne.mpr c3
  simp only [Option.some.injEq, Prod.mk.injEq] at H
  obtain ⟨rfl, rfl, rfl, rfl, rfl, rfl, rfl, rfl, rfl, rfl, rfl⟩ := H
  go_enter Tryz.func17, Tryz.ntmps17
  go_wp2_with (first | ((with_reducible refine gate_dst (N := 2) rfl ?_); refine box_event ?hg (N := 2) ?hd (cs := #[.int .i64 0, .string (⟨#[]⟩ : ByteArray), .string (⟨#[]⟩ : ByteArray), .int .i64 0, .string (⟨#[]⟩ : ByteArray), .int .i64 0, .bool false, .int .i64 0, .int .i64 0, .int .i64 0]) (t := 27) ?hr ?_; (case hd => rfl); (case hg => rfl); (case hr => first | (go_simp; done) | (go_simp; rfl)); intro gb229 hg w10 hbox hb; have n0_ := Aside0.mk (below_step (by repeat (first | (with_reducible first | exact HB.out | apply below_alloc | apply pw_below_drewN | apply below_drew1) | exact HB.out)) hb); have n1_ := Aside0.mk (hbox); have n2_ := Aside0.mk ((by rw [hg]; exact (below_size (by repeat (first | (with_reducible first | exact HB.out | apply below_alloc | apply pw_below_drewN | apply below_drew1) | exact HB.out))) : w.heap.size ≤ gb229)); have n3_ := Aside0.mk ((by rw [hg]; exact (below_size (by repeat (first | (with_reducible first | exact HB.out | apply below_alloc | apply pw_below_drewN | apply below_drew1) | exact HB.out))) : w.heap.size ≤ gb229)); clear HB; have HB := n0_; have BK229 := n1_; have GW229 := n2_; have GE229 := n3_; clear n0_ n1_ n2_ n3_; clear hb hbox hg) | ((with_reducible refine gate_callee (f := 44) rfl ?_); refine goesL_ (some 9) rfl rfl Tryz.func44 (by kernel_rfl) rfl #[.string a0] rfl (by (try simp only [List.map_toArray, List.map_cons, List.map_nil]); first | done | rfl | (simp only [List.length_drop, List.length_take]; rfl)) ?_; (with_reducible refine (words_Split.calls a0 t230 t231 t232 _ A2.out).mono ?_); rintro e w11 ⟨v233, rfl, ho0, hb⟩; refine ⟨_, rfl, ?_⟩; have n0_ := Aside0.mk (Kd.R_lower ho0 (below_size (by repeat (first | (with_reducible first | exact HB.out | apply below_alloc | apply pw_below_drewN | apply below_drew1 | refine below_set ?_ GE229.out) | exact HB.out)))); have n1_ := Aside0.mk (blk_below (g := gb229) (o := .cells #[.int .i64 0, .string (⟨#[]⟩ : ByteArray), .string (⟨#[]⟩ : ByteArray), .int .i64 0, .string (⟨#[]⟩ : ByteArray), .int .i64 0, .bool false, .int .i64 0, .int .i64 0, .int .i64 0] 27 (0, 0)) (by (with_reducible repeat (first | refine blk_drewN ?_ _ | refine blk_drew ?_ | refine blk_alloc ?_ _)); exact BK229.out) hb); have n2_ := Aside0.mk (below_step (by repeat (first | (with_reducible first | exact HB.out | apply below_alloc | apply pw_below_drewN | apply below_drew1 | refine below_set ?_ GE229.out) | exact HB.out)) hb); clear BK229; clear HB; have HO234 := n0_; have BK229 := n1_; have HB := n2_; clear n0_ n1_ n2_; (try clear hb); (try clear hb2); (try clear hk); (try clear hi); (try clear ho0); have hcz12_0 : w11.cell? ⟨gb229, 0, none⟩ = some (.int .i64 0) := (blk_cell BK229.out 0).trans rfl; have hcz12_1 : w11.cell? ⟨gb229, 1, none⟩ = some (.string (⟨#[]⟩ : ByteArray)) := (blk_cell BK229.out 1).trans rfl; have hcz12_2 : w11.cell? ⟨gb229, 2, none⟩ = some (.string (⟨#[]⟩ : ByteArray)) := (blk_cell BK229.out 2).trans rfl; have hcz12_3 : w11.cell? ⟨gb229, 3, none⟩ = some (.int .i64 0) := (blk_cell BK229.out 3).trans rfl; have hcz12_4 : w11.cell? ⟨gb229, 4, none⟩ = some (.string (⟨#[]⟩ : ByteArray)) := (blk_cell BK229.out 4).trans rfl; have hcz12_5 : w11.cell? ⟨gb229, 5, none⟩ = some (.int .i64 0) := (blk_cell BK229.out 5).trans rfl; have hcz12_6 : w11.cell? ⟨gb229, 6, none⟩ = some (.bool false) := (blk_cell BK229.out 6).trans rfl; have hcz12_7 : w11.cell? ⟨gb229, 7, none⟩ = some (.int .i64 0) := (blk_cell BK229.out 7).trans rfl; have hcz12_8 : w11.cell? ⟨gb229, 8, none⟩ = some (.int .i64 0) := (blk_cell BK229.out 8).trans rfl; have hcz12_9 : w11.cell? ⟨gb229, 9, none⟩ = some (.int .i64 0) := (blk_cell BK229.out 9).trans rfl; have hfz12_0 := blk_frozen BK229.out 0; have hfz12_1 := blk_frozen BK229.out 1; have hfz12_2 := blk_frozen BK229.out 2; have hfz12_3 := blk_frozen BK229.out 3; have hfz12_4 := blk_frozen BK229.out 4; have hfz12_5 := blk_frozen BK229.out 5; have hfz12_6 := blk_frozen BK229.out 6; have hfz12_7 := blk_frozen BK229.out 7; have hfz12_8 := blk_frozen BK229.out 8; have hfz12_9 := blk_frozen BK229.out 9))
  refine bodyPost_ret (results_ct rfl _ _ gb229 27 #[.int .i64 0, .string (⟨#[]⟩ : ByteArray), .string (⟨#[]⟩ : ByteArray), .int .i64 0, .string (⟨#[]⟩ : ByteArray), .int .i64 0, .bool false, .int .i64 0, .int .i64 0, .int .i64 0] (0, 0) _ rfl (by (with_reducible repeat (first | refine blk_drewN ?_ _ | refine blk_drew ?_ | refine blk_alloc ?_ _)); refine blk_put (cs := #[.int .i64 0, .string (⟨#[]⟩ : ByteArray), .string (⟨#[]⟩ : ByteArray), .int .i64 0, .string (⟨#[]⟩ : ByteArray), .int .i64 0, .bool false, .int .i64 0, .int .i64 0, .int .i64 0]) ?_ 9 _ rfl; (with_reducible repeat (first | refine blk_drewN ?_ _ | refine blk_drew ?_ | refine blk_alloc ?_ _)); refine blk_put (cs := #[.int .i64 0, .string (⟨#[]⟩ : ByteArray), .string (⟨#[]⟩ : ByteArray), .int .i64 0, .string (⟨#[]⟩ : ByteArray), .int .i64 0, .bool false, .int .i64 0, .int .i64 0, .int .i64 0]) ?_ 8 _ rfl; (with_reducible repeat (first | refine blk_drewN ?_ _ | refine blk_drew ?_ | refine blk_alloc ?_ _)); refine blk_put (cs := #[.int .i64 0, .string (⟨#[]⟩ : ByteArray), .string (⟨#[]⟩ : ByteArray), .int .i64 0, .string (⟨#[]⟩ : ByteArray), .int .i64 0, .bool false, .int .i64 0, .int .i64 0, .int .i64 0]) ?_ 7 _ rfl; (with_reducible repeat (first | refine blk_drewN ?_ _ | refine blk_drew ?_ | refine blk_alloc ?_ _)); refine blk_put (cs := #[.int .i64 0, .string (⟨#[]⟩ : ByteArray), .string (⟨#[]⟩ : ByteArray), .int .i64 0, .string (⟨#[]⟩ : ByteArray), .int .i64 0, .bool false, .int .i64 0, .int .i64 0, .int .i64 0]) ?_ 6 _ rfl; (with_reducible repeat (first | refine blk_drewN ?_ _ | refine blk_drew ?_ | refine blk_alloc ?_ _)); refine blk_put (cs := #[.int .i64 0, .string (⟨#[]⟩ : ByteArray), .string (⟨#[]⟩ : ByteArray), .int .i64 0, .string (⟨#[]⟩ : ByteArray), .int .i64 0, .bool false, .int .i64 0, .int .i64 0, .int .i64 0]) ?_ 5 _ rfl; (with_reducible repeat (first | refine blk_drewN ?_ _ | refine blk_drew ?_ | refine blk_alloc ?_ _)); refine blk_put (cs := #[.int .i64 0, .string (⟨#[]⟩ : ByteArray), .string (⟨#[]⟩ : ByteArray), .int .i64 0, .string (⟨#[]⟩ : ByteArray), .int .i64 0, .bool false, .int .i64 0, .int .i64 0, .int .i64 0]) ?_ 4 _ rfl; (with_reducible repeat (first | refine blk_drewN ?_ _ | refine blk_drew ?_ | refine blk_alloc ?_ _)); refine blk_put (cs := #[.int .i64 0, .string (⟨#[]⟩ : ByteArray), .string (⟨#[]⟩ : ByteArray), .int .i64 0, .string (⟨#[]⟩ : ByteArray), .int .i64 0, .bool false, .int .i64 0, .int .i64 0, .int .i64 0]) ?_ 3 _ rfl; (with_reducible repeat (first | refine blk_drewN ?_ _ | refine blk_drew ?_ | refine blk_alloc ?_ _)); refine blk_put (cs := #[.int .i64 0, .string (⟨#[]⟩ : ByteArray), .string (⟨#[]⟩ : ByteArray), .int .i64 0, .string (⟨#[]⟩ : ByteArray), .int .i64 0, .bool false, .int .i64 0, .int .i64 0, .int .i64 0]) ?_ 2 _ rfl; (with_reducible repeat (first | refine blk_drewN ?_ _ | refine blk_drew ?_ | refine blk_alloc ?_ _)); refine blk_put (cs := #[.int .i64 0, .string (⟨#[]⟩ : ByteArray), .string (⟨#[]⟩ : ByteArray), .int .i64 0, .string (⟨#[]⟩ : ByteArray), .int .i64 0, .bool false, .int .i64 0, .int .i64 0, .int .i64 0]) ?_ 1 _ rfl; (with_reducible repeat (first | refine blk_drewN ?_ _ | refine blk_drew ?_ | refine blk_alloc ?_ _)); refine blk_put (cs := #[.int .i64 0, .string (⟨#[]⟩ : ByteArray), .string (⟨#[]⟩ : ByteArray), .int .i64 0, .string (⟨#[]⟩ : ByteArray), .int .i64 0, .bool false, .int .i64 0, .int .i64 0, .int .i64 0]) ?_ 0 _ rfl; (with_reducible repeat (first | refine blk_drewN ?_ _ | refine blk_drew ?_ | refine blk_alloc ?_ _)); exact BK229.out) Tryz.underlying27 rfl (by kernel_rfl)) rfl ?_
  exact ⟨by first | rfl | (simp [errW_none, errW_some] <;> rfl) | (simp [*, errW_none, errW_some] <;> rfl), by repeat (first | (with_reducible first | exact HB.out | apply below_alloc | apply pw_below_drewN | apply below_drew1 | refine below_set ?_ GE229.out) | exact HB.out)⟩
def chicanelaw16_alive.f (k : Nat)  : Option (Bool) := (order_Parse.f (⟨#[116, 111, 120, 105, 99, 32, 97, 100, 100, 32, 112, 32, 108, 97, 103, 32, 108, 97, 116, 101, 110, 99, 121, 32, 117, 112, 32, 49, 48, 48, 32, 53, 32, 49]⟩ : ByteArray)).bind fun bt246 => ((order_Parse.f (⟨#[108, 105, 115, 116, 32, 97, 108, 108]⟩ : ByteArray)).bind fun bt258 => ((order_Parse.f (⟨#[102, 108, 121]⟩ : ByteArray)).bind fun bt270 => ((order_Parse.f (⟨#[35, 32, 110, 111, 116, 104, 105, 110, 103]⟩ : ByteArray)).bind fun bt282 => (if bt246.2.2.2.2.2.2.2.2.2.2 = 0 then (if bt246.1 = 5 then (if bt246.2.1.toList = ([112] : List UInt8) then (if bt246.2.2.2.2.2.2.2.2.1 = 5 then ((order_Text.f k bt246.1 bt246.2.1 bt246.2.2.1 bt246.2.2.2.1 bt246.2.2.2.2.1 bt246.2.2.2.2.2.1 bt246.2.2.2.2.2.2.1 bt246.2.2.2.2.2.2.2.1 bt246.2.2.2.2.2.2.2.2.1 bt246.2.2.2.2.2.2.2.2.2.1).bind fun t294 => (if t294.toList = ([116, 111, 120, 105, 99, 32, 97, 100, 100, 32, 112, 32, 108, 97, 103, 32, 108, 97, 116, 101, 110, 99, 121, 32, 117, 112, 32, 49, 48, 48, 32, 53, 32, 49] : List UInt8) then (if bt258.2.2.2.2.2.2.2.2.2.2 = 161 then (if bt270.2.2.2.2.2.2.2.2.2.2 = 162 then (if bt282.2.2.2.2.2.2.2.2.2.2 = 160 then ((order_Changes.f 3).bind fun t295 => (if t295 = true then ((order_Verbs.f).bind fun t296 => (some ((t296.length : Int) == 10))) else (some false))) else (some false)) else (some false)) else (some false)) else (some false))) else (some false)) else (some false)) else (some false)) else (some false)))))
theorem chicanelaw16_alive.mono : ∀ k, LeO (chicanelaw16_alive.f k ) (chicanelaw16_alive.f (k + 1) ) := by
 intro  k
 unfold chicanelaw16_alive.f
 repeat' first
   | (with_reducible exact order_Text.mono _ _ _ _ _ _ _ _ _ _ _)
   | (with_reducible exact LeO.refl _)
   | (with_reducible exact LeO.none _)
   | (with_reducible refine LeO.ite ?_ ?_)
   | (with_reducible refine LeO.bind ?_ (fun _ => ?_))
   | exact order_Text.mono _ _ _ _ _ _ _ _ _ _ _
   | exact LeO.none _
   | refine LeO.ite ?_ ?_
   | refine LeO.bind ?_ (fun _ => ?_)
set_option maxHeartbeats 8000000 in
set_option maxRecDepth 100000 in
theorem chicanelaw16_alive.calls_t (k : Nat)  (r : Bool) (w : World) (hT : Aside0 (Ext.Tab w)) (hr : r = true) (h : chicanelaw16_alive.f k  = some r) :
  Calls Tryz.prog 8 #[] w fun e w' => e = .returned (.bool r) ∧ Below w.heap.size w w' := by
 have hu27 := Tryz.underlying27
 have HB := Aside0.mk (Below.refl w.heap.size w)
 have H : ((order_Parse.f (⟨#[116, 111, 120, 105, 99, 32, 97, 100, 100, 32, 112, 32, 108, 97, 103, 32, 108, 97, 116, 101, 110, 99, 121, 32, 117, 112, 32, 49, 48, 48, 32, 53, 32, 49]⟩ : ByteArray)).bind fun bt246 => ((order_Parse.f (⟨#[108, 105, 115, 116, 32, 97, 108, 108]⟩ : ByteArray)).bind fun bt258 => ((order_Parse.f (⟨#[102, 108, 121]⟩ : ByteArray)).bind fun bt270 => ((order_Parse.f (⟨#[35, 32, 110, 111, 116, 104, 105, 110, 103]⟩ : ByteArray)).bind fun bt282 => (if bt246.2.2.2.2.2.2.2.2.2.2 = 0 then (if bt246.1 = 5 then (if bt246.2.1.toList = ([112] : List UInt8) then (if bt246.2.2.2.2.2.2.2.2.1 = 5 then ((order_Text.f k bt246.1 bt246.2.1 bt246.2.2.1 bt246.2.2.2.1 bt246.2.2.2.2.1 bt246.2.2.2.2.2.1 bt246.2.2.2.2.2.2.1 bt246.2.2.2.2.2.2.2.1 bt246.2.2.2.2.2.2.2.2.1 bt246.2.2.2.2.2.2.2.2.2.1).bind fun t294 => (if t294.toList = ([116, 111, 120, 105, 99, 32, 97, 100, 100, 32, 112, 32, 108, 97, 103, 32, 108, 97, 116, 101, 110, 99, 121, 32, 117, 112, 32, 49, 48, 48, 32, 53, 32, 49] : List UInt8) then (if bt258.2.2.2.2.2.2.2.2.2.2 = 161 then (if bt270.2.2.2.2.2.2.2.2.2.2 = 162 then (if bt282.2.2.2.2.2.2.2.2.2.2 = 160 then ((order_Changes.f 3).bind fun t295 => (if t295 = true then ((order_Verbs.f).bind fun t296 => (some ((t296.length : Int) == 10))) else (some false))) else (some false)) else (some false)) else (some false)) else (some false))) else (some false)) else (some false)) else (some false)) else (some false)))))) = some r := h
 clear h
 replace H := Option.bind_eq_some_iff.mp H
 obtain ⟨⟨t246, t247, t248, t249, t250, t251, t252, t253, t254, t255, t256⟩, A10, H⟩ := H
 replace H : ((order_Parse.f (⟨#[108, 105, 115, 116, 32, 97, 108, 108]⟩ : ByteArray)).bind fun bt258 => ((order_Parse.f (⟨#[102, 108, 121]⟩ : ByteArray)).bind fun bt270 => ((order_Parse.f (⟨#[35, 32, 110, 111, 116, 104, 105, 110, 103]⟩ : ByteArray)).bind fun bt282 => (if t256 = 0 then (if t246 = 5 then (if t247.toList = ([112] : List UInt8) then (if t254 = 5 then ((order_Text.f k t246 t247 t248 t249 t250 t251 t252 t253 t254 t255).bind fun t294 => (if t294.toList = ([116, 111, 120, 105, 99, 32, 97, 100, 100, 32, 112, 32, 108, 97, 103, 32, 108, 97, 116, 101, 110, 99, 121, 32, 117, 112, 32, 49, 48, 48, 32, 53, 32, 49] : List UInt8) then (if bt258.2.2.2.2.2.2.2.2.2.2 = 161 then (if bt270.2.2.2.2.2.2.2.2.2.2 = 162 then (if bt282.2.2.2.2.2.2.2.2.2.2 = 160 then ((order_Changes.f 3).bind fun t295 => (if t295 = true then ((order_Verbs.f).bind fun t296 => (some ((t296.length : Int) == 10))) else (some false))) else (some false)) else (some false)) else (some false)) else (some false))) else (some false)) else (some false)) else (some false)) else (some false))))) = some r := H
 have A1 := Aside0.mk A10
 clear A10
 replace H := Option.bind_eq_some_iff.mp H
 obtain ⟨⟨t258, t259, t260, t261, t262, t263, t264, t265, t266, t267, t268⟩, A20, H⟩ := H
 replace H : ((order_Parse.f (⟨#[102, 108, 121]⟩ : ByteArray)).bind fun bt270 => ((order_Parse.f (⟨#[35, 32, 110, 111, 116, 104, 105, 110, 103]⟩ : ByteArray)).bind fun bt282 => (if t256 = 0 then (if t246 = 5 then (if t247.toList = ([112] : List UInt8) then (if t254 = 5 then ((order_Text.f k t246 t247 t248 t249 t250 t251 t252 t253 t254 t255).bind fun t294 => (if t294.toList = ([116, 111, 120, 105, 99, 32, 97, 100, 100, 32, 112, 32, 108, 97, 103, 32, 108, 97, 116, 101, 110, 99, 121, 32, 117, 112, 32, 49, 48, 48, 32, 53, 32, 49] : List UInt8) then (if t268 = 161 then (if bt270.2.2.2.2.2.2.2.2.2.2 = 162 then (if bt282.2.2.2.2.2.2.2.2.2.2 = 160 then ((order_Changes.f 3).bind fun t295 => (if t295 = true then ((order_Verbs.f).bind fun t296 => (some ((t296.length : Int) == 10))) else (some false))) else (some false)) else (some false)) else (some false)) else (some false))) else (some false)) else (some false)) else (some false)) else (some false)))) = some r := H
 have A2 := Aside0.mk A20
 clear A20
 replace H := Option.bind_eq_some_iff.mp H
 obtain ⟨⟨t270, t271, t272, t273, t274, t275, t276, t277, t278, t279, t280⟩, A30, H⟩ := H
 replace H : ((order_Parse.f (⟨#[35, 32, 110, 111, 116, 104, 105, 110, 103]⟩ : ByteArray)).bind fun bt282 => (if t256 = 0 then (if t246 = 5 then (if t247.toList = ([112] : List UInt8) then (if t254 = 5 then ((order_Text.f k t246 t247 t248 t249 t250 t251 t252 t253 t254 t255).bind fun t294 => (if t294.toList = ([116, 111, 120, 105, 99, 32, 97, 100, 100, 32, 112, 32, 108, 97, 103, 32, 108, 97, 116, 101, 110, 99, 121, 32, 117, 112, 32, 49, 48, 48, 32, 53, 32, 49] : List UInt8) then (if t268 = 161 then (if t280 = 162 then (if bt282.2.2.2.2.2.2.2.2.2.2 = 160 then ((order_Changes.f 3).bind fun t295 => (if t295 = true then ((order_Verbs.f).bind fun t296 => (some ((t296.length : Int) == 10))) else (some false))) else (some false)) else (some false)) else (some false)) else (some false))) else (some false)) else (some false)) else (some false)) else (some false))) = some r := H
 have A3 := Aside0.mk A30
 clear A30
 replace H := Option.bind_eq_some_iff.mp H
 obtain ⟨⟨t282, t283, t284, t285, t286, t287, t288, t289, t290, t291, t292⟩, A40, H⟩ := H
 replace H : (if t256 = 0 then (if t246 = 5 then (if t247.toList = ([112] : List UInt8) then (if t254 = 5 then ((order_Text.f k t246 t247 t248 t249 t250 t251 t252 t253 t254 t255).bind fun t294 => (if t294.toList = ([116, 111, 120, 105, 99, 32, 97, 100, 100, 32, 112, 32, 108, 97, 103, 32, 108, 97, 116, 101, 110, 99, 121, 32, 117, 112, 32, 49, 48, 48, 32, 53, 32, 49] : List UInt8) then (if t268 = 161 then (if t280 = 162 then (if t292 = 160 then ((order_Changes.f 3).bind fun t295 => (if t295 = true then ((order_Verbs.f).bind fun t296 => (some ((t296.length : Int) == 10))) else (some false))) else (some false)) else (some false)) else (some false)) else (some false))) else (some false)) else (some false)) else (some false)) else (some false)) = some r := H
 have A4 := Aside0.mk A40
 clear A40
 by_cases c5 : t256 = 0
 ·rw [if_pos c5] at H
  have c5b0 : (t256 == 0) = true := beq_iff_eq.mpr c5
  have c5b1 : (t256 != 0) = false := bne_eq_false_iff_eq.mpr c5
  clear c5
  by_cases c6 : t246 = 5
  ·rw [if_pos c6] at H
   have c6b0 : (t246 == 5) = true := beq_iff_eq.mpr c6
   have c6b1 : (t246 != 5) = false := bne_eq_false_iff_eq.mpr c6
   clear c6
   by_cases c7 : t247.toList = ([112] : List UInt8)
   ·rw [if_pos c7] at H
    have c7b0 : (t247.toList == ([112] : List UInt8)) = true := beq_iff_eq.mpr c7
    have c7b1 : (t247.toList != ([112] : List UInt8)) = false := bne_eq_false_iff_eq.mpr c7
    clear c7
    by_cases c8 : t254 = 5
    ·rw [if_pos c8] at H
     have c8b0 : (t254 == 5) = true := beq_iff_eq.mpr c8
     have c8b1 : (t254 != 5) = false := bne_eq_false_iff_eq.mpr c8
     clear c8
     replace H := Option.bind_eq_some_iff.mp H
     obtain ⟨t294, A90, H⟩ := H
     replace H : (if t294.toList = ([116, 111, 120, 105, 99, 32, 97, 100, 100, 32, 112, 32, 108, 97, 103, 32, 108, 97, 116, 101, 110, 99, 121, 32, 117, 112, 32, 49, 48, 48, 32, 53, 32, 49] : List UInt8) then (if t268 = 161 then (if t280 = 162 then (if t292 = 160 then ((order_Changes.f 3).bind fun t295 => (if t295 = true then ((order_Verbs.f).bind fun t296 => (some ((t296.length : Int) == 10))) else (some false))) else (some false)) else (some false)) else (some false)) else (some false)) = some r := H
     have A9 := Aside0.mk A90
     clear A90
     by_cases c10 : t294.toList = ([116, 111, 120, 105, 99, 32, 97, 100, 100, 32, 112, 32, 108, 97, 103, 32, 108, 97, 116, 101, 110, 99, 121, 32, 117, 112, 32, 49, 48, 48, 32, 53, 32, 49] : List UInt8)
     ·rw [if_pos c10] at H
      have c10b0 : (t294.toList == ([116, 111, 120, 105, 99, 32, 97, 100, 100, 32, 112, 32, 108, 97, 103, 32, 108, 97, 116, 101, 110, 99, 121, 32, 117, 112, 32, 49, 48, 48, 32, 53, 32, 49] : List UInt8)) = true := beq_iff_eq.mpr c10
      have c10b1 : (t294.toList != ([116, 111, 120, 105, 99, 32, 97, 100, 100, 32, 112, 32, 108, 97, 103, 32, 108, 97, 116, 101, 110, 99, 121, 32, 117, 112, 32, 49, 48, 48, 32, 53, 32, 49] : List UInt8)) = false := bne_eq_false_iff_eq.mpr c10
      clear c10
      by_cases c11 : t268 = 161
      ·rw [if_pos c11] at H
       have c11b0 : (t268 == 161) = true := beq_iff_eq.mpr c11
       have c11b1 : (t268 != 161) = false := bne_eq_false_iff_eq.mpr c11
       clear c11
       by_cases c12 : t280 = 162
       ·rw [if_pos c12] at H
        have c12b0 : (t280 == 162) = true := beq_iff_eq.mpr c12
        have c12b1 : (t280 != 162) = false := bne_eq_false_iff_eq.mpr c12
        clear c12
        by_cases c13 : t292 = 160
        ·rw [if_pos c13] at H
         have c13b0 : (t292 == 160) = true := beq_iff_eq.mpr c13
         have c13b1 : (t292 != 160) = false := bne_eq_false_iff_eq.mpr c13
         clear c13
         replace H := Option.bind_eq_some_iff.mp H
         obtain ⟨t295, A140, H⟩ := H
         replace H : (if t295 = true then ((order_Verbs.f).bind fun t296 => (some ((t296.length : Int) == 10))) else (some false)) = some r := H
         have A14 := Aside0.mk A140
         clear A140
         by_cases c15 : t295 = true
         ·subst c15
          have H1 : ((order_Verbs.f).bind fun t296 => (some ((t296.length : Int) == 10))) = some r := by rw [if_pos rfl] at H; exact H
          clear H
          have H := H1
          clear H1
          replace H := Option.bind_eq_some_iff.mp H
          obtain ⟨t296, A160, H⟩ := H
          replace H : (some ((t296.length : Int) == 10)) = some r := H
          have A16 := Aside0.mk A160
          clear A160
          obtain rfl := Option.some.inj H
          go_enter Tryz.func8, Tryz.ntmps8
          go_wp2_with (first | ((with_reducible refine gate_callee (f := 17) rfl ?_); refine goesL_ (some 10) rfl rfl Tryz.func17 (by kernel_rfl) rfl #[.string (⟨#[116, 111, 120, 105, 99, 32, 97, 100, 100, 32, 112, 32, 108, 97, 103, 32, 108, 97, 116, 101, 110, 99, 121, 32, 117, 112, 32, 49, 48, 48, 32, 53, 32, 49]⟩ : ByteArray)] rfl (by (try simp only [List.map_toArray, List.map_cons, List.map_nil]); first | done | rfl | (simp only [List.length_drop, List.length_take]; rfl)) ?_; (with_reducible refine (order_Parse.calls (⟨#[116, 111, 120, 105, 99, 32, 97, 100, 100, 32, 112, 32, 108, 97, 103, 32, 108, 97, 116, 101, 110, 99, 121, 32, 117, 112, 32, 49, 48, 48, 32, 53, 32, 49]⟩ : ByteArray) t246 t247 t248 t249 t250 t251 t252 t253 t254 t255 t256 _ (⟨Ext.tab_below hT.out (by repeat (first | (with_reducible first | exact HB.out | apply below_alloc | apply pw_below_drewN | apply below_drew1 | refine below_set ?_ GE257.out | refine below_set ?_ GE269.out | refine below_set ?_ GE281.out | refine below_set ?_ GE293.out) | exact HB.out))⟩) A1.out).mono ?_); rintro e w17 ⟨rfl, hb⟩; refine ⟨_, rfl, ?_⟩; have n0_ := Aside0.mk (below_step (by repeat (first | (with_reducible first | exact HB.out | apply below_alloc | apply pw_below_drewN | apply below_drew1) | exact HB.out)) hb); clear HB; have HB := n0_; clear n0_; (try clear hb); (try clear hb2); (try clear hk); (try clear hi)) | ((with_reducible refine gate_dst (N := 1) rfl ?_); (try (refine gate_guard (by rfl) ?_; dsimp only)); refine box_event ?hg (N := 1) ?hd (cs := #[.int .i64 0, .string (⟨#[]⟩ : ByteArray), .string (⟨#[]⟩ : ByteArray), .int .i64 0, .string (⟨#[]⟩ : ByteArray), .int .i64 0, .bool false, .int .i64 0, .int .i64 0, .int .i64 0]) (t := 27) ?hr ?_; (case hd => rfl); (case hg => rfl); (case hr => first | (go_simp; done) | (go_simp; rfl)); intro gb257 hg w18 hbox hb; have n0_ := Aside0.mk (below_step (by repeat (first | (with_reducible first | exact HB.out | apply below_alloc | apply pw_below_drewN | apply below_drew1) | exact HB.out)) hb); have n1_ := Aside0.mk (hbox); have n2_ := Aside0.mk ((by rw [hg]; exact (below_size (by repeat (first | (with_reducible first | exact HB.out | apply below_alloc | apply pw_below_drewN | apply below_drew1) | exact HB.out))) : w.heap.size ≤ gb257)); have n3_ := Aside0.mk ((by rw [hg]; exact (below_size (by repeat (first | (with_reducible first | exact HB.out | apply below_alloc | apply pw_below_drewN | apply below_drew1) | exact HB.out))) : w.heap.size ≤ gb257)); clear HB; have HB := n0_; have BK257 := n1_; have GW257 := n2_; have GE257 := n3_; clear n0_ n1_ n2_ n3_; clear hb hbox hg; have hcz19_0 : w18.cell? ⟨gb257, 0, none⟩ = some (.int .i64 0) := (blk_cell BK257.out 0).trans rfl; have hcz19_1 : w18.cell? ⟨gb257, 1, none⟩ = some (.string (⟨#[]⟩ : ByteArray)) := (blk_cell BK257.out 1).trans rfl; have hcz19_2 : w18.cell? ⟨gb257, 2, none⟩ = some (.string (⟨#[]⟩ : ByteArray)) := (blk_cell BK257.out 2).trans rfl; have hcz19_3 : w18.cell? ⟨gb257, 3, none⟩ = some (.int .i64 0) := (blk_cell BK257.out 3).trans rfl; have hcz19_4 : w18.cell? ⟨gb257, 4, none⟩ = some (.string (⟨#[]⟩ : ByteArray)) := (blk_cell BK257.out 4).trans rfl; have hcz19_5 : w18.cell? ⟨gb257, 5, none⟩ = some (.int .i64 0) := (blk_cell BK257.out 5).trans rfl; have hcz19_6 : w18.cell? ⟨gb257, 6, none⟩ = some (.bool false) := (blk_cell BK257.out 6).trans rfl; have hcz19_7 : w18.cell? ⟨gb257, 7, none⟩ = some (.int .i64 0) := (blk_cell BK257.out 7).trans rfl; have hcz19_8 : w18.cell? ⟨gb257, 8, none⟩ = some (.int .i64 0) := (blk_cell BK257.out 8).trans rfl; have hcz19_9 : w18.cell? ⟨gb257, 9, none⟩ = some (.int .i64 0) := (blk_cell BK257.out 9).trans rfl; have hfz19_0 := blk_frozen BK257.out 0; have hfz19_1 := blk_frozen BK257.out 1; have hfz19_2 := blk_frozen BK257.out 2; have hfz19_3 := blk_frozen BK257.out 3; have hfz19_4 := blk_frozen BK257.out 4; have hfz19_5 := blk_frozen BK257.out 5; have hfz19_6 := blk_frozen BK257.out 6; have hfz19_7 := blk_frozen BK257.out 7; have hfz19_8 := blk_frozen BK257.out 8; have hfz19_9 := blk_frozen BK257.out 9) | ((with_reducible refine gate_callee (f := 17) rfl ?_); refine goesL_ (some 14) rfl rfl Tryz.func17 (by kernel_rfl) rfl #[.string (⟨#[108, 105, 115, 116, 32, 97, 108, 108]⟩ : ByteArray)] rfl (by (try simp only [List.map_toArray, List.map_cons, List.map_nil]); first | done | rfl | (simp only [List.length_drop, List.length_take]; rfl)) ?_; (with_reducible refine (order_Parse.calls (⟨#[108, 105, 115, 116, 32, 97, 108, 108]⟩ : ByteArray) t258 t259 t260 t261 t262 t263 t264 t265 t266 t267 t268 _ (⟨Ext.tab_below hT.out (by repeat (first | (with_reducible first | exact HB.out | apply below_alloc | apply pw_below_drewN | apply below_drew1 | refine below_set ?_ GE257.out | refine below_set ?_ GE269.out | refine below_set ?_ GE281.out | refine below_set ?_ GE293.out) | exact HB.out))⟩) A2.out).mono ?_); rintro e w20 ⟨rfl, hb⟩; refine ⟨_, rfl, ?_⟩; have n0_ := Aside0.mk (blk_below (g := gb257) (o := .cells #[.int .i64 t246, .string t247, .string t248, .int .i64 t249, .string t250, .int .i64 t251, .bool t252, .int .i64 t253, .int .i64 t254, .int .i64 t255] 27 (0, 0)) (by (with_reducible repeat (first | refine blk_drewN ?_ _ | refine blk_drew ?_ | refine blk_alloc ?_ _)); refine blk_put (cs := #[.int .i64 t246, .string t247, .string t248, .int .i64 t249, .string t250, .int .i64 t251, .bool t252, .int .i64 t253, .int .i64 t254, .int .i64 0]) ?_ 9 _ rfl; (with_reducible repeat (first | refine blk_drewN ?_ _ | refine blk_drew ?_ | refine blk_alloc ?_ _)); refine blk_put (cs := #[.int .i64 t246, .string t247, .string t248, .int .i64 t249, .string t250, .int .i64 t251, .bool t252, .int .i64 t253, .int .i64 0, .int .i64 0]) ?_ 8 _ rfl; (with_reducible repeat (first | refine blk_drewN ?_ _ | refine blk_drew ?_ | refine blk_alloc ?_ _)); refine blk_put (cs := #[.int .i64 t246, .string t247, .string t248, .int .i64 t249, .string t250, .int .i64 t251, .bool t252, .int .i64 0, .int .i64 0, .int .i64 0]) ?_ 7 _ rfl; (with_reducible repeat (first | refine blk_drewN ?_ _ | refine blk_drew ?_ | refine blk_alloc ?_ _)); refine blk_put (cs := #[.int .i64 t246, .string t247, .string t248, .int .i64 t249, .string t250, .int .i64 t251, .bool false, .int .i64 0, .int .i64 0, .int .i64 0]) ?_ 6 _ rfl; (with_reducible repeat (first | refine blk_drewN ?_ _ | refine blk_drew ?_ | refine blk_alloc ?_ _)); refine blk_put (cs := #[.int .i64 t246, .string t247, .string t248, .int .i64 t249, .string t250, .int .i64 0, .bool false, .int .i64 0, .int .i64 0, .int .i64 0]) ?_ 5 _ rfl; (with_reducible repeat (first | refine blk_drewN ?_ _ | refine blk_drew ?_ | refine blk_alloc ?_ _)); refine blk_put (cs := #[.int .i64 t246, .string t247, .string t248, .int .i64 t249, .string (⟨#[]⟩ : ByteArray), .int .i64 0, .bool false, .int .i64 0, .int .i64 0, .int .i64 0]) ?_ 4 _ rfl; (with_reducible repeat (first | refine blk_drewN ?_ _ | refine blk_drew ?_ | refine blk_alloc ?_ _)); refine blk_put (cs := #[.int .i64 t246, .string t247, .string t248, .int .i64 0, .string (⟨#[]⟩ : ByteArray), .int .i64 0, .bool false, .int .i64 0, .int .i64 0, .int .i64 0]) ?_ 3 _ rfl; (with_reducible repeat (first | refine blk_drewN ?_ _ | refine blk_drew ?_ | refine blk_alloc ?_ _)); refine blk_put (cs := #[.int .i64 t246, .string t247, .string (⟨#[]⟩ : ByteArray), .int .i64 0, .string (⟨#[]⟩ : ByteArray), .int .i64 0, .bool false, .int .i64 0, .int .i64 0, .int .i64 0]) ?_ 2 _ rfl; (with_reducible repeat (first | refine blk_drewN ?_ _ | refine blk_drew ?_ | refine blk_alloc ?_ _)); refine blk_put (cs := #[.int .i64 t246, .string (⟨#[]⟩ : ByteArray), .string (⟨#[]⟩ : ByteArray), .int .i64 0, .string (⟨#[]⟩ : ByteArray), .int .i64 0, .bool false, .int .i64 0, .int .i64 0, .int .i64 0]) ?_ 1 _ rfl; (with_reducible repeat (first | refine blk_drewN ?_ _ | refine blk_drew ?_ | refine blk_alloc ?_ _)); refine blk_put (cs := #[.int .i64 0, .string (⟨#[]⟩ : ByteArray), .string (⟨#[]⟩ : ByteArray), .int .i64 0, .string (⟨#[]⟩ : ByteArray), .int .i64 0, .bool false, .int .i64 0, .int .i64 0, .int .i64 0]) ?_ 0 _ rfl; (with_reducible repeat (first | refine blk_drewN ?_ _ | refine blk_drew ?_ | refine blk_alloc ?_ _)); exact BK257.out) hb); have n1_ := Aside0.mk (below_step (by repeat (first | (with_reducible first | exact HB.out | apply below_alloc | apply pw_below_drewN | apply below_drew1 | refine below_set ?_ GE257.out) | exact HB.out)) hb); clear BK257; clear HB; have BK257 := n0_; have HB := n1_; clear n0_ n1_; (try clear hb); (try clear hb2); (try clear hk); (try clear hi)) | ((with_reducible refine gate_dst (N := 3) rfl ?_); (try (refine gate_guard (by rfl) ?_; dsimp only)); refine box_event ?hg (N := 3) ?hd (cs := #[.int .i64 0, .string (⟨#[]⟩ : ByteArray), .string (⟨#[]⟩ : ByteArray), .int .i64 0, .string (⟨#[]⟩ : ByteArray), .int .i64 0, .bool false, .int .i64 0, .int .i64 0, .int .i64 0]) (t := 27) ?hr ?_; (case hd => rfl); (case hg => rfl); (case hr => first | (go_simp; done) | (go_simp; rfl)); intro gb269 hg w21 hbox hb; have n0_ := Aside0.mk (blk_below (g := gb257) (o := .cells #[.int .i64 t246, .string t247, .string t248, .int .i64 t249, .string t250, .int .i64 t251, .bool t252, .int .i64 t253, .int .i64 t254, .int .i64 t255] 27 (0, 0)) (by (with_reducible repeat (first | refine blk_drewN ?_ _ | refine blk_drew ?_ | refine blk_alloc ?_ _)); exact BK257.out) hb); have n1_ := Aside0.mk (below_step (by repeat (first | (with_reducible first | exact HB.out | apply below_alloc | apply pw_below_drewN | apply below_drew1 | refine below_set ?_ GE257.out) | exact HB.out)) hb); have n2_ := Aside0.mk (hbox); have n3_ := Aside0.mk ((by rw [hg]; exact (below_size (by repeat (first | (with_reducible first | exact HB.out | apply below_alloc | apply pw_below_drewN | apply below_drew1 | refine below_set ?_ GE257.out) | exact HB.out))) : w.heap.size ≤ gb269)); have n4_ := Aside0.mk ((by rw [hg]; exact (below_size (by repeat (first | (with_reducible first | exact HB.out | apply below_alloc | apply pw_below_drewN | apply below_drew1 | refine below_set ?_ GE257.out) | exact HB.out))) : w.heap.size ≤ gb269)); have n5_ := Aside0.mk ((by rw [hg]; exact Nat.ne_of_lt (blk_lt (g := gb257) (o := .cells #[.int .i64 t246, .string t247, .string t248, .int .i64 t249, .string t250, .int .i64 t251, .bool t252, .int .i64 t253, .int .i64 t254, .int .i64 t255] 27 (0, 0)) (by (with_reducible repeat (first | refine blk_drewN ?_ _ | refine blk_drew ?_ | refine blk_alloc ?_ _)); exact BK257.out)) : gb257 ≠ gb269)); have n6_ := Aside0.mk ((by rw [hg]; exact Nat.ne_of_gt (blk_lt (g := gb257) (o := .cells #[.int .i64 t246, .string t247, .string t248, .int .i64 t249, .string t250, .int .i64 t251, .bool t252, .int .i64 t253, .int .i64 t254, .int .i64 t255] 27 (0, 0)) (by (with_reducible repeat (first | refine blk_drewN ?_ _ | refine blk_drew ?_ | refine blk_alloc ?_ _)); exact BK257.out)) : gb269 ≠ gb257)); clear BK257; clear HB; have BK257 := n0_; have HB := n1_; have BK269 := n2_; have GW269 := n3_; have GE269 := n4_; have NB257_269 := n5_; have NB269_257 := n6_; clear n0_ n1_ n2_ n3_ n4_ n5_ n6_; clear hb hbox hg; have hnb22 := NB269_257.out; have hnc22 := NB257_269.out; have hcz23_0 : w21.cell? ⟨gb269, 0, none⟩ = some (.int .i64 0) := (blk_cell BK269.out 0).trans rfl; have hcz23_1 : w21.cell? ⟨gb269, 1, none⟩ = some (.string (⟨#[]⟩ : ByteArray)) := (blk_cell BK269.out 1).trans rfl; have hcz23_2 : w21.cell? ⟨gb269, 2, none⟩ = some (.string (⟨#[]⟩ : ByteArray)) := (blk_cell BK269.out 2).trans rfl; have hcz23_3 : w21.cell? ⟨gb269, 3, none⟩ = some (.int .i64 0) := (blk_cell BK269.out 3).trans rfl; have hcz23_4 : w21.cell? ⟨gb269, 4, none⟩ = some (.string (⟨#[]⟩ : ByteArray)) := (blk_cell BK269.out 4).trans rfl; have hcz23_5 : w21.cell? ⟨gb269, 5, none⟩ = some (.int .i64 0) := (blk_cell BK269.out 5).trans rfl; have hcz23_6 : w21.cell? ⟨gb269, 6, none⟩ = some (.bool false) := (blk_cell BK269.out 6).trans rfl; have hcz23_7 : w21.cell? ⟨gb269, 7, none⟩ = some (.int .i64 0) := (blk_cell BK269.out 7).trans rfl; have hcz23_8 : w21.cell? ⟨gb269, 8, none⟩ = some (.int .i64 0) := (blk_cell BK269.out 8).trans rfl; have hcz23_9 : w21.cell? ⟨gb269, 9, none⟩ = some (.int .i64 0) := (blk_cell BK269.out 9).trans rfl; have hfz23_0 := blk_frozen BK269.out 0; have hfz23_1 := blk_frozen BK269.out 1; have hfz23_2 := blk_frozen BK269.out 2; have hfz23_3 := blk_frozen BK269.out 3; have hfz23_4 := blk_frozen BK269.out 4; have hfz23_5 := blk_frozen BK269.out 5; have hfz23_6 := blk_frozen BK269.out 6; have hfz23_7 := blk_frozen BK269.out 7; have hfz23_8 := blk_frozen BK269.out 8; have hfz23_9 := blk_frozen BK269.out 9) | ((with_reducible refine gate_callee (f := 17) rfl ?_); refine goesL_ (some 18) rfl rfl Tryz.func17 (by kernel_rfl) rfl #[.string (⟨#[102, 108, 121]⟩ : ByteArray)] rfl (by (try simp only [List.map_toArray, List.map_cons, List.map_nil]); first | done | rfl | (simp only [List.length_drop, List.length_take]; rfl)) ?_; (with_reducible refine (order_Parse.calls (⟨#[102, 108, 121]⟩ : ByteArray) t270 t271 t272 t273 t274 t275 t276 t277 t278 t279 t280 _ (⟨Ext.tab_below hT.out (by repeat (first | (with_reducible first | exact HB.out | apply below_alloc | apply pw_below_drewN | apply below_drew1 | refine below_set ?_ GE257.out | refine below_set ?_ GE269.out | refine below_set ?_ GE281.out | refine below_set ?_ GE293.out) | exact HB.out))⟩) A3.out).mono ?_); rintro e w24 ⟨rfl, hb⟩; refine ⟨_, rfl, ?_⟩; have n0_ := Aside0.mk (blk_below (g := gb257) (o := .cells #[.int .i64 t246, .string t247, .string t248, .int .i64 t249, .string t250, .int .i64 t251, .bool t252, .int .i64 t253, .int .i64 t254, .int .i64 t255] 27 (0, 0)) (by (with_reducible repeat (first | refine blk_drewN ?_ _ | refine blk_drew ?_ | refine blk_alloc ?_ _)); refine blk_far ?_ NB257_269.out _; (with_reducible repeat (first | refine blk_drewN ?_ _ | refine blk_drew ?_ | refine blk_alloc ?_ _)); refine blk_far ?_ NB257_269.out _; (with_reducible repeat (first | refine blk_drewN ?_ _ | refine blk_drew ?_ | refine blk_alloc ?_ _)); refine blk_far ?_ NB257_269.out _; (with_reducible repeat (first | refine blk_drewN ?_ _ | refine blk_drew ?_ | refine blk_alloc ?_ _)); refine blk_far ?_ NB257_269.out _; (with_reducible repeat (first | refine blk_drewN ?_ _ | refine blk_drew ?_ | refine blk_alloc ?_ _)); refine blk_far ?_ NB257_269.out _; (with_reducible repeat (first | refine blk_drewN ?_ _ | refine blk_drew ?_ | refine blk_alloc ?_ _)); refine blk_far ?_ NB257_269.out _; (with_reducible repeat (first | refine blk_drewN ?_ _ | refine blk_drew ?_ | refine blk_alloc ?_ _)); refine blk_far ?_ NB257_269.out _; (with_reducible repeat (first | refine blk_drewN ?_ _ | refine blk_drew ?_ | refine blk_alloc ?_ _)); refine blk_far ?_ NB257_269.out _; (with_reducible repeat (first | refine blk_drewN ?_ _ | refine blk_drew ?_ | refine blk_alloc ?_ _)); refine blk_far ?_ NB257_269.out _; (with_reducible repeat (first | refine blk_drewN ?_ _ | refine blk_drew ?_ | refine blk_alloc ?_ _)); refine blk_far ?_ NB257_269.out _; (with_reducible repeat (first | refine blk_drewN ?_ _ | refine blk_drew ?_ | refine blk_alloc ?_ _)); exact BK257.out) hb); have n1_ := Aside0.mk (blk_below (g := gb269) (o := .cells #[.int .i64 t258, .string t259, .string t260, .int .i64 t261, .string t262, .int .i64 t263, .bool t264, .int .i64 t265, .int .i64 t266, .int .i64 t267] 27 (0, 0)) (by (with_reducible repeat (first | refine blk_drewN ?_ _ | refine blk_drew ?_ | refine blk_alloc ?_ _)); refine blk_put (cs := #[.int .i64 t258, .string t259, .string t260, .int .i64 t261, .string t262, .int .i64 t263, .bool t264, .int .i64 t265, .int .i64 t266, .int .i64 0]) ?_ 9 _ rfl; (with_reducible repeat (first | refine blk_drewN ?_ _ | refine blk_drew ?_ | refine blk_alloc ?_ _)); refine blk_put (cs := #[.int .i64 t258, .string t259, .string t260, .int .i64 t261, .string t262, .int .i64 t263, .bool t264, .int .i64 t265, .int .i64 0, .int .i64 0]) ?_ 8 _ rfl; (with_reducible repeat (first | refine blk_drewN ?_ _ | refine blk_drew ?_ | refine blk_alloc ?_ _)); refine blk_put (cs := #[.int .i64 t258, .string t259, .string t260, .int .i64 t261, .string t262, .int .i64 t263, .bool t264, .int .i64 0, .int .i64 0, .int .i64 0]) ?_ 7 _ rfl; (with_reducible repeat (first | refine blk_drewN ?_ _ | refine blk_drew ?_ | refine blk_alloc ?_ _)); refine blk_put (cs := #[.int .i64 t258, .string t259, .string t260, .int .i64 t261, .string t262, .int .i64 t263, .bool false, .int .i64 0, .int .i64 0, .int .i64 0]) ?_ 6 _ rfl; (with_reducible repeat (first | refine blk_drewN ?_ _ | refine blk_drew ?_ | refine blk_alloc ?_ _)); refine blk_put (cs := #[.int .i64 t258, .string t259, .string t260, .int .i64 t261, .string t262, .int .i64 0, .bool false, .int .i64 0, .int .i64 0, .int .i64 0]) ?_ 5 _ rfl; (with_reducible repeat (first | refine blk_drewN ?_ _ | refine blk_drew ?_ | refine blk_alloc ?_ _)); refine blk_put (cs := #[.int .i64 t258, .string t259, .string t260, .int .i64 t261, .string (⟨#[]⟩ : ByteArray), .int .i64 0, .bool false, .int .i64 0, .int .i64 0, .int .i64 0]) ?_ 4 _ rfl; (with_reducible repeat (first | refine blk_drewN ?_ _ | refine blk_drew ?_ | refine blk_alloc ?_ _)); refine blk_put (cs := #[.int .i64 t258, .string t259, .string t260, .int .i64 0, .string (⟨#[]⟩ : ByteArray), .int .i64 0, .bool false, .int .i64 0, .int .i64 0, .int .i64 0]) ?_ 3 _ rfl; (with_reducible repeat (first | refine blk_drewN ?_ _ | refine blk_drew ?_ | refine blk_alloc ?_ _)); refine blk_put (cs := #[.int .i64 t258, .string t259, .string (⟨#[]⟩ : ByteArray), .int .i64 0, .string (⟨#[]⟩ : ByteArray), .int .i64 0, .bool false, .int .i64 0, .int .i64 0, .int .i64 0]) ?_ 2 _ rfl; (with_reducible repeat (first | refine blk_drewN ?_ _ | refine blk_drew ?_ | refine blk_alloc ?_ _)); refine blk_put (cs := #[.int .i64 t258, .string (⟨#[]⟩ : ByteArray), .string (⟨#[]⟩ : ByteArray), .int .i64 0, .string (⟨#[]⟩ : ByteArray), .int .i64 0, .bool false, .int .i64 0, .int .i64 0, .int .i64 0]) ?_ 1 _ rfl; (with_reducible repeat (first | refine blk_drewN ?_ _ | refine blk_drew ?_ | refine blk_alloc ?_ _)); refine blk_put (cs := #[.int .i64 0, .string (⟨#[]⟩ : ByteArray), .string (⟨#[]⟩ : ByteArray), .int .i64 0, .string (⟨#[]⟩ : ByteArray), .int .i64 0, .bool false, .int .i64 0, .int .i64 0, .int .i64 0]) ?_ 0 _ rfl; (with_reducible repeat (first | refine blk_drewN ?_ _ | refine blk_drew ?_ | refine blk_alloc ?_ _)); exact BK269.out) hb); have n2_ := Aside0.mk (below_step (by repeat (first | (with_reducible first | exact HB.out | apply below_alloc | apply pw_below_drewN | apply below_drew1 | refine below_set ?_ GE257.out | refine below_set ?_ GE269.out) | exact HB.out)) hb); clear BK257; clear BK269; clear HB; have BK257 := n0_; have BK269 := n1_; have HB := n2_; clear n0_ n1_ n2_; (try clear hb); (try clear hb2); (try clear hk); (try clear hi)) | ((with_reducible refine gate_dst (N := 5) rfl ?_); (try (refine gate_guard (by rfl) ?_; dsimp only)); refine box_event ?hg (N := 5) ?hd (cs := #[.int .i64 0, .string (⟨#[]⟩ : ByteArray), .string (⟨#[]⟩ : ByteArray), .int .i64 0, .string (⟨#[]⟩ : ByteArray), .int .i64 0, .bool false, .int .i64 0, .int .i64 0, .int .i64 0]) (t := 27) ?hr ?_; (case hd => rfl); (case hg => rfl); (case hr => first | (go_simp; done) | (go_simp; rfl)); intro gb281 hg w25 hbox hb; have n0_ := Aside0.mk (blk_below (g := gb257) (o := .cells #[.int .i64 t246, .string t247, .string t248, .int .i64 t249, .string t250, .int .i64 t251, .bool t252, .int .i64 t253, .int .i64 t254, .int .i64 t255] 27 (0, 0)) (by (with_reducible repeat (first | refine blk_drewN ?_ _ | refine blk_drew ?_ | refine blk_alloc ?_ _)); exact BK257.out) hb); have n1_ := Aside0.mk (blk_below (g := gb269) (o := .cells #[.int .i64 t258, .string t259, .string t260, .int .i64 t261, .string t262, .int .i64 t263, .bool t264, .int .i64 t265, .int .i64 t266, .int .i64 t267] 27 (0, 0)) (by (with_reducible repeat (first | refine blk_drewN ?_ _ | refine blk_drew ?_ | refine blk_alloc ?_ _)); exact BK269.out) hb); have n2_ := Aside0.mk (below_step (by repeat (first | (with_reducible first | exact HB.out | apply below_alloc | apply pw_below_drewN | apply below_drew1 | refine below_set ?_ GE257.out | refine below_set ?_ GE269.out) | exact HB.out)) hb); have n3_ := Aside0.mk (hbox); have n4_ := Aside0.mk ((by rw [hg]; exact (below_size (by repeat (first | (with_reducible first | exact HB.out | apply below_alloc | apply pw_below_drewN | apply below_drew1 | refine below_set ?_ GE257.out | refine below_set ?_ GE269.out) | exact HB.out))) : w.heap.size ≤ gb281)); have n5_ := Aside0.mk ((by rw [hg]; exact (below_size (by repeat (first | (with_reducible first | exact HB.out | apply below_alloc | apply pw_below_drewN | apply below_drew1 | refine below_set ?_ GE257.out | refine below_set ?_ GE269.out) | exact HB.out))) : w.heap.size ≤ gb281)); have n6_ := Aside0.mk ((by rw [hg]; exact Nat.ne_of_lt (blk_lt (g := gb257) (o := .cells #[.int .i64 t246, .string t247, .string t248, .int .i64 t249, .string t250, .int .i64 t251, .bool t252, .int .i64 t253, .int .i64 t254, .int .i64 t255] 27 (0, 0)) (by (with_reducible repeat (first | refine blk_drewN ?_ _ | refine blk_drew ?_ | refine blk_alloc ?_ _)); exact BK257.out)) : gb257 ≠ gb281)); have n7_ := Aside0.mk ((by rw [hg]; exact Nat.ne_of_gt (blk_lt (g := gb257) (o := .cells #[.int .i64 t246, .string t247, .string t248, .int .i64 t249, .string t250, .int .i64 t251, .bool t252, .int .i64 t253, .int .i64 t254, .int .i64 t255] 27 (0, 0)) (by (with_reducible repeat (first | refine blk_drewN ?_ _ | refine blk_drew ?_ | refine blk_alloc ?_ _)); exact BK257.out)) : gb281 ≠ gb257)); have n8_ := Aside0.mk ((by rw [hg]; exact Nat.ne_of_lt (blk_lt (g := gb269) (o := .cells #[.int .i64 t258, .string t259, .string t260, .int .i64 t261, .string t262, .int .i64 t263, .bool t264, .int .i64 t265, .int .i64 t266, .int .i64 t267] 27 (0, 0)) (by (with_reducible repeat (first | refine blk_drewN ?_ _ | refine blk_drew ?_ | refine blk_alloc ?_ _)); exact BK269.out)) : gb269 ≠ gb281)); have n9_ := Aside0.mk ((by rw [hg]; exact Nat.ne_of_gt (blk_lt (g := gb269) (o := .cells #[.int .i64 t258, .string t259, .string t260, .int .i64 t261, .string t262, .int .i64 t263, .bool t264, .int .i64 t265, .int .i64 t266, .int .i64 t267] 27 (0, 0)) (by (with_reducible repeat (first | refine blk_drewN ?_ _ | refine blk_drew ?_ | refine blk_alloc ?_ _)); exact BK269.out)) : gb281 ≠ gb269)); clear BK257; clear BK269; clear HB; have BK257 := n0_; have BK269 := n1_; have HB := n2_; have BK281 := n3_; have GW281 := n4_; have GE281 := n5_; have NB257_281 := n6_; have NB281_257 := n7_; have NB269_281 := n8_; have NB281_269 := n9_; clear n0_ n1_ n2_ n3_ n4_ n5_ n6_ n7_ n8_ n9_; clear hb hbox hg; have hnb26 := NB281_257.out; have hnc26 := NB257_281.out; have hnb27 := NB281_269.out; have hnc27 := NB269_281.out; have hcz28_0 : w25.cell? ⟨gb281, 0, none⟩ = some (.int .i64 0) := (blk_cell BK281.out 0).trans rfl; have hcz28_1 : w25.cell? ⟨gb281, 1, none⟩ = some (.string (⟨#[]⟩ : ByteArray)) := (blk_cell BK281.out 1).trans rfl; have hcz28_2 : w25.cell? ⟨gb281, 2, none⟩ = some (.string (⟨#[]⟩ : ByteArray)) := (blk_cell BK281.out 2).trans rfl; have hcz28_3 : w25.cell? ⟨gb281, 3, none⟩ = some (.int .i64 0) := (blk_cell BK281.out 3).trans rfl; have hcz28_4 : w25.cell? ⟨gb281, 4, none⟩ = some (.string (⟨#[]⟩ : ByteArray)) := (blk_cell BK281.out 4).trans rfl; have hcz28_5 : w25.cell? ⟨gb281, 5, none⟩ = some (.int .i64 0) := (blk_cell BK281.out 5).trans rfl; have hcz28_6 : w25.cell? ⟨gb281, 6, none⟩ = some (.bool false) := (blk_cell BK281.out 6).trans rfl; have hcz28_7 : w25.cell? ⟨gb281, 7, none⟩ = some (.int .i64 0) := (blk_cell BK281.out 7).trans rfl; have hcz28_8 : w25.cell? ⟨gb281, 8, none⟩ = some (.int .i64 0) := (blk_cell BK281.out 8).trans rfl; have hcz28_9 : w25.cell? ⟨gb281, 9, none⟩ = some (.int .i64 0) := (blk_cell BK281.out 9).trans rfl; have hfz28_0 := blk_frozen BK281.out 0; have hfz28_1 := blk_frozen BK281.out 1; have hfz28_2 := blk_frozen BK281.out 2; have hfz28_3 := blk_frozen BK281.out 3; have hfz28_4 := blk_frozen BK281.out 4; have hfz28_5 := blk_frozen BK281.out 5; have hfz28_6 := blk_frozen BK281.out 6; have hfz28_7 := blk_frozen BK281.out 7; have hfz28_8 := blk_frozen BK281.out 8; have hfz28_9 := blk_frozen BK281.out 9) | ((with_reducible refine gate_callee (f := 17) rfl ?_); refine goesL_ (some 22) rfl rfl Tryz.func17 (by kernel_rfl) rfl #[.string (⟨#[35, 32, 110, 111, 116, 104, 105, 110, 103]⟩ : ByteArray)] rfl (by (try simp only [List.map_toArray, List.map_cons, List.map_nil]); first | done | rfl | (simp only [List.length_drop, List.length_take]; rfl)) ?_; (with_reducible refine (order_Parse.calls (⟨#[35, 32, 110, 111, 116, 104, 105, 110, 103]⟩ : ByteArray) t282 t283 t284 t285 t286 t287 t288 t289 t290 t291 t292 _ (⟨Ext.tab_below hT.out (by repeat (first | (with_reducible first | exact HB.out | apply below_alloc | apply pw_below_drewN | apply below_drew1 | refine below_set ?_ GE257.out | refine below_set ?_ GE269.out | refine below_set ?_ GE281.out | refine below_set ?_ GE293.out) | exact HB.out))⟩) A4.out).mono ?_); rintro e w29 ⟨rfl, hb⟩; refine ⟨_, rfl, ?_⟩; have n0_ := Aside0.mk (blk_below (g := gb257) (o := .cells #[.int .i64 t246, .string t247, .string t248, .int .i64 t249, .string t250, .int .i64 t251, .bool t252, .int .i64 t253, .int .i64 t254, .int .i64 t255] 27 (0, 0)) (by (with_reducible repeat (first | refine blk_drewN ?_ _ | refine blk_drew ?_ | refine blk_alloc ?_ _)); refine blk_far ?_ NB257_281.out _; (with_reducible repeat (first | refine blk_drewN ?_ _ | refine blk_drew ?_ | refine blk_alloc ?_ _)); refine blk_far ?_ NB257_281.out _; (with_reducible repeat (first | refine blk_drewN ?_ _ | refine blk_drew ?_ | refine blk_alloc ?_ _)); refine blk_far ?_ NB257_281.out _; (with_reducible repeat (first | refine blk_drewN ?_ _ | refine blk_drew ?_ | refine blk_alloc ?_ _)); refine blk_far ?_ NB257_281.out _; (with_reducible repeat (first | refine blk_drewN ?_ _ | refine blk_drew ?_ | refine blk_alloc ?_ _)); refine blk_far ?_ NB257_281.out _; (with_reducible repeat (first | refine blk_drewN ?_ _ | refine blk_drew ?_ | refine blk_alloc ?_ _)); refine blk_far ?_ NB257_281.out _; (with_reducible repeat (first | refine blk_drewN ?_ _ | refine blk_drew ?_ | refine blk_alloc ?_ _)); refine blk_far ?_ NB257_281.out _; (with_reducible repeat (first | refine blk_drewN ?_ _ | refine blk_drew ?_ | refine blk_alloc ?_ _)); refine blk_far ?_ NB257_281.out _; (with_reducible repeat (first | refine blk_drewN ?_ _ | refine blk_drew ?_ | refine blk_alloc ?_ _)); refine blk_far ?_ NB257_281.out _; (with_reducible repeat (first | refine blk_drewN ?_ _ | refine blk_drew ?_ | refine blk_alloc ?_ _)); refine blk_far ?_ NB257_281.out _; (with_reducible repeat (first | refine blk_drewN ?_ _ | refine blk_drew ?_ | refine blk_alloc ?_ _)); exact BK257.out) hb); have n1_ := Aside0.mk (blk_below (g := gb269) (o := .cells #[.int .i64 t258, .string t259, .string t260, .int .i64 t261, .string t262, .int .i64 t263, .bool t264, .int .i64 t265, .int .i64 t266, .int .i64 t267] 27 (0, 0)) (by (with_reducible repeat (first | refine blk_drewN ?_ _ | refine blk_drew ?_ | refine blk_alloc ?_ _)); refine blk_far ?_ NB269_281.out _; (with_reducible repeat (first | refine blk_drewN ?_ _ | refine blk_drew ?_ | refine blk_alloc ?_ _)); refine blk_far ?_ NB269_281.out _; (with_reducible repeat (first | refine blk_drewN ?_ _ | refine blk_drew ?_ | refine blk_alloc ?_ _)); refine blk_far ?_ NB269_281.out _; (with_reducible repeat (first | refine blk_drewN ?_ _ | refine blk_drew ?_ | refine blk_alloc ?_ _)); refine blk_far ?_ NB269_281.out _; (with_reducible repeat (first | refine blk_drewN ?_ _ | refine blk_drew ?_ | refine blk_alloc ?_ _)); refine blk_far ?_ NB269_281.out _; (with_reducible repeat (first | refine blk_drewN ?_ _ | refine blk_drew ?_ | refine blk_alloc ?_ _)); refine blk_far ?_ NB269_281.out _; (with_reducible repeat (first | refine blk_drewN ?_ _ | refine blk_drew ?_ | refine blk_alloc ?_ _)); refine blk_far ?_ NB269_281.out _; (with_reducible repeat (first | refine blk_drewN ?_ _ | refine blk_drew ?_ | refine blk_alloc ?_ _)); refine blk_far ?_ NB269_281.out _; (with_reducible repeat (first | refine blk_drewN ?_ _ | refine blk_drew ?_ | refine blk_alloc ?_ _)); refine blk_far ?_ NB269_281.out _; (with_reducible repeat (first | refine blk_drewN ?_ _ | refine blk_drew ?_ | refine blk_alloc ?_ _)); refine blk_far ?_ NB269_281.out _; (with_reducible repeat (first | refine blk_drewN ?_ _ | refine blk_drew ?_ | refine blk_alloc ?_ _)); exact BK269.out) hb); have n2_ := Aside0.mk (blk_below (g := gb281) (o := .cells #[.int .i64 t270, .string t271, .string t272, .int .i64 t273, .string t274, .int .i64 t275, .bool t276, .int .i64 t277, .int .i64 t278, .int .i64 t279] 27 (0, 0)) (by (with_reducible repeat (first | refine blk_drewN ?_ _ | refine blk_drew ?_ | refine blk_alloc ?_ _)); refine blk_put (cs := #[.int .i64 t270, .string t271, .string t272, .int .i64 t273, .string t274, .int .i64 t275, .bool t276, .int .i64 t277, .int .i64 t278, .int .i64 0]) ?_ 9 _ rfl; (with_reducible repeat (first | refine blk_drewN ?_ _ | refine blk_drew ?_ | refine blk_alloc ?_ _)); refine blk_put (cs := #[.int .i64 t270, .string t271, .string t272, .int .i64 t273, .string t274, .int .i64 t275, .bool t276, .int .i64 t277, .int .i64 0, .int .i64 0]) ?_ 8 _ rfl; (with_reducible repeat (first | refine blk_drewN ?_ _ | refine blk_drew ?_ | refine blk_alloc ?_ _)); refine blk_put (cs := #[.int .i64 t270, .string t271, .string t272, .int .i64 t273, .string t274, .int .i64 t275, .bool t276, .int .i64 0, .int .i64 0, .int .i64 0]) ?_ 7 _ rfl; (with_reducible repeat (first | refine blk_drewN ?_ _ | refine blk_drew ?_ | refine blk_alloc ?_ _)); refine blk_put (cs := #[.int .i64 t270, .string t271, .string t272, .int .i64 t273, .string t274, .int .i64 t275, .bool false, .int .i64 0, .int .i64 0, .int .i64 0]) ?_ 6 _ rfl; (with_reducible repeat (first | refine blk_drewN ?_ _ | refine blk_drew ?_ | refine blk_alloc ?_ _)); refine blk_put (cs := #[.int .i64 t270, .string t271, .string t272, .int .i64 t273, .string t274, .int .i64 0, .bool false, .int .i64 0, .int .i64 0, .int .i64 0]) ?_ 5 _ rfl; (with_reducible repeat (first | refine blk_drewN ?_ _ | refine blk_drew ?_ | refine blk_alloc ?_ _)); refine blk_put (cs := #[.int .i64 t270, .string t271, .string t272, .int .i64 t273, .string (⟨#[]⟩ : ByteArray), .int .i64 0, .bool false, .int .i64 0, .int .i64 0, .int .i64 0]) ?_ 4 _ rfl; (with_reducible repeat (first | refine blk_drewN ?_ _ | refine blk_drew ?_ | refine blk_alloc ?_ _)); refine blk_put (cs := #[.int .i64 t270, .string t271, .string t272, .int .i64 0, .string (⟨#[]⟩ : ByteArray), .int .i64 0, .bool false, .int .i64 0, .int .i64 0, .int .i64 0]) ?_ 3 _ rfl; (with_reducible repeat (first | refine blk_drewN ?_ _ | refine blk_drew ?_ | refine blk_alloc ?_ _)); refine blk_put (cs := #[.int .i64 t270, .string t271, .string (⟨#[]⟩ : ByteArray), .int .i64 0, .string (⟨#[]⟩ : ByteArray), .int .i64 0, .bool false, .int .i64 0, .int .i64 0, .int .i64 0]) ?_ 2 _ rfl; (with_reducible repeat (first | refine blk_drewN ?_ _ | refine blk_drew ?_ | refine blk_alloc ?_ _)); refine blk_put (cs := #[.int .i64 t270, .string (⟨#[]⟩ : ByteArray), .string (⟨#[]⟩ : ByteArray), .int .i64 0, .string (⟨#[]⟩ : ByteArray), .int .i64 0, .bool false, .int .i64 0, .int .i64 0, .int .i64 0]) ?_ 1 _ rfl; (with_reducible repeat (first | refine blk_drewN ?_ _ | refine blk_drew ?_ | refine blk_alloc ?_ _)); refine blk_put (cs := #[.int .i64 0, .string (⟨#[]⟩ : ByteArray), .string (⟨#[]⟩ : ByteArray), .int .i64 0, .string (⟨#[]⟩ : ByteArray), .int .i64 0, .bool false, .int .i64 0, .int .i64 0, .int .i64 0]) ?_ 0 _ rfl; (with_reducible repeat (first | refine blk_drewN ?_ _ | refine blk_drew ?_ | refine blk_alloc ?_ _)); exact BK281.out) hb); have n3_ := Aside0.mk (below_step (by repeat (first | (with_reducible first | exact HB.out | apply below_alloc | apply pw_below_drewN | apply below_drew1 | refine below_set ?_ GE257.out | refine below_set ?_ GE269.out | refine below_set ?_ GE281.out) | exact HB.out)) hb); clear BK257; clear BK269; clear BK281; clear HB; have BK257 := n0_; have BK269 := n1_; have BK281 := n2_; have HB := n3_; clear n0_ n1_ n2_ n3_; (try clear hb); (try clear hb2); (try clear hk); (try clear hi)) | ((with_reducible refine gate_dst (N := 7) rfl ?_); (try (refine gate_guard (by rfl) ?_; dsimp only)); refine box_event ?hg (N := 7) ?hd (cs := #[.int .i64 0, .string (⟨#[]⟩ : ByteArray), .string (⟨#[]⟩ : ByteArray), .int .i64 0, .string (⟨#[]⟩ : ByteArray), .int .i64 0, .bool false, .int .i64 0, .int .i64 0, .int .i64 0]) (t := 27) ?hr ?_; (case hd => rfl); (case hg => rfl); (case hr => first | (go_simp; done) | (go_simp; rfl)); intro gb293 hg w30 hbox hb; have n0_ := Aside0.mk (blk_below (g := gb257) (o := .cells #[.int .i64 t246, .string t247, .string t248, .int .i64 t249, .string t250, .int .i64 t251, .bool t252, .int .i64 t253, .int .i64 t254, .int .i64 t255] 27 (0, 0)) (by (with_reducible repeat (first | refine blk_drewN ?_ _ | refine blk_drew ?_ | refine blk_alloc ?_ _)); exact BK257.out) hb); have n1_ := Aside0.mk (blk_below (g := gb269) (o := .cells #[.int .i64 t258, .string t259, .string t260, .int .i64 t261, .string t262, .int .i64 t263, .bool t264, .int .i64 t265, .int .i64 t266, .int .i64 t267] 27 (0, 0)) (by (with_reducible repeat (first | refine blk_drewN ?_ _ | refine blk_drew ?_ | refine blk_alloc ?_ _)); exact BK269.out) hb); have n2_ := Aside0.mk (blk_below (g := gb281) (o := .cells #[.int .i64 t270, .string t271, .string t272, .int .i64 t273, .string t274, .int .i64 t275, .bool t276, .int .i64 t277, .int .i64 t278, .int .i64 t279] 27 (0, 0)) (by (with_reducible repeat (first | refine blk_drewN ?_ _ | refine blk_drew ?_ | refine blk_alloc ?_ _)); exact BK281.out) hb); have n3_ := Aside0.mk (below_step (by repeat (first | (with_reducible first | exact HB.out | apply below_alloc | apply pw_below_drewN | apply below_drew1 | refine below_set ?_ GE257.out | refine below_set ?_ GE269.out | refine below_set ?_ GE281.out) | exact HB.out)) hb); have n4_ := Aside0.mk (hbox); have n5_ := Aside0.mk ((by rw [hg]; exact (below_size (by repeat (first | (with_reducible first | exact HB.out | apply below_alloc | apply pw_below_drewN | apply below_drew1 | refine below_set ?_ GE257.out | refine below_set ?_ GE269.out | refine below_set ?_ GE281.out) | exact HB.out))) : w.heap.size ≤ gb293)); have n6_ := Aside0.mk ((by rw [hg]; exact (below_size (by repeat (first | (with_reducible first | exact HB.out | apply below_alloc | apply pw_below_drewN | apply below_drew1 | refine below_set ?_ GE257.out | refine below_set ?_ GE269.out | refine below_set ?_ GE281.out) | exact HB.out))) : w.heap.size ≤ gb293)); have n7_ := Aside0.mk ((by rw [hg]; exact Nat.ne_of_lt (blk_lt (g := gb257) (o := .cells #[.int .i64 t246, .string t247, .string t248, .int .i64 t249, .string t250, .int .i64 t251, .bool t252, .int .i64 t253, .int .i64 t254, .int .i64 t255] 27 (0, 0)) (by (with_reducible repeat (first | refine blk_drewN ?_ _ | refine blk_drew ?_ | refine blk_alloc ?_ _)); exact BK257.out)) : gb257 ≠ gb293)); have n8_ := Aside0.mk ((by rw [hg]; exact Nat.ne_of_gt (blk_lt (g := gb257) (o := .cells #[.int .i64 t246, .string t247, .string t248, .int .i64 t249, .string t250, .int .i64 t251, .bool t252, .int .i64 t253, .int .i64 t254, .int .i64 t255] 27 (0, 0)) (by (with_reducible repeat (first | refine blk_drewN ?_ _ | refine blk_drew ?_ | refine blk_alloc ?_ _)); exact BK257.out)) : gb293 ≠ gb257)); have n9_ := Aside0.mk ((by rw [hg]; exact Nat.ne_of_lt (blk_lt (g := gb269) (o := .cells #[.int .i64 t258, .string t259, .string t260, .int .i64 t261, .string t262, .int .i64 t263, .bool t264, .int .i64 t265, .int .i64 t266, .int .i64 t267] 27 (0, 0)) (by (with_reducible repeat (first | refine blk_drewN ?_ _ | refine blk_drew ?_ | refine blk_alloc ?_ _)); exact BK269.out)) : gb269 ≠ gb293)); have n10_ := Aside0.mk ((by rw [hg]; exact Nat.ne_of_gt (blk_lt (g := gb269) (o := .cells #[.int .i64 t258, .string t259, .string t260, .int .i64 t261, .string t262, .int .i64 t263, .bool t264, .int .i64 t265, .int .i64 t266, .int .i64 t267] 27 (0, 0)) (by (with_reducible repeat (first | refine blk_drewN ?_ _ | refine blk_drew ?_ | refine blk_alloc ?_ _)); exact BK269.out)) : gb293 ≠ gb269)); have n11_ := Aside0.mk ((by rw [hg]; exact Nat.ne_of_lt (blk_lt (g := gb281) (o := .cells #[.int .i64 t270, .string t271, .string t272, .int .i64 t273, .string t274, .int .i64 t275, .bool t276, .int .i64 t277, .int .i64 t278, .int .i64 t279] 27 (0, 0)) (by (with_reducible repeat (first | refine blk_drewN ?_ _ | refine blk_drew ?_ | refine blk_alloc ?_ _)); exact BK281.out)) : gb281 ≠ gb293)); have n12_ := Aside0.mk ((by rw [hg]; exact Nat.ne_of_gt (blk_lt (g := gb281) (o := .cells #[.int .i64 t270, .string t271, .string t272, .int .i64 t273, .string t274, .int .i64 t275, .bool t276, .int .i64 t277, .int .i64 t278, .int .i64 t279] 27 (0, 0)) (by (with_reducible repeat (first | refine blk_drewN ?_ _ | refine blk_drew ?_ | refine blk_alloc ?_ _)); exact BK281.out)) : gb293 ≠ gb281)); clear BK257; clear BK269; clear BK281; clear HB; have BK257 := n0_; have BK269 := n1_; have BK281 := n2_; have HB := n3_; have BK293 := n4_; have GW293 := n5_; have GE293 := n6_; have NB257_293 := n7_; have NB293_257 := n8_; have NB269_293 := n9_; have NB293_269 := n10_; have NB281_293 := n11_; have NB293_281 := n12_; clear n0_ n1_ n2_ n3_ n4_ n5_ n6_ n7_ n8_ n9_ n10_ n11_ n12_; clear hb hbox hg; have hnb31 := NB293_257.out; have hnc31 := NB257_293.out; have hnb32 := NB293_269.out; have hnc32 := NB269_293.out; have hnb33 := NB293_281.out; have hnc33 := NB281_293.out; have hcz34_0 : w30.cell? ⟨gb293, 0, none⟩ = some (.int .i64 0) := (blk_cell BK293.out 0).trans rfl; have hcz34_1 : w30.cell? ⟨gb293, 1, none⟩ = some (.string (⟨#[]⟩ : ByteArray)) := (blk_cell BK293.out 1).trans rfl; have hcz34_2 : w30.cell? ⟨gb293, 2, none⟩ = some (.string (⟨#[]⟩ : ByteArray)) := (blk_cell BK293.out 2).trans rfl; have hcz34_3 : w30.cell? ⟨gb293, 3, none⟩ = some (.int .i64 0) := (blk_cell BK293.out 3).trans rfl; have hcz34_4 : w30.cell? ⟨gb293, 4, none⟩ = some (.string (⟨#[]⟩ : ByteArray)) := (blk_cell BK293.out 4).trans rfl; have hcz34_5 : w30.cell? ⟨gb293, 5, none⟩ = some (.int .i64 0) := (blk_cell BK293.out 5).trans rfl; have hcz34_6 : w30.cell? ⟨gb293, 6, none⟩ = some (.bool false) := (blk_cell BK293.out 6).trans rfl; have hcz34_7 : w30.cell? ⟨gb293, 7, none⟩ = some (.int .i64 0) := (blk_cell BK293.out 7).trans rfl; have hcz34_8 : w30.cell? ⟨gb293, 8, none⟩ = some (.int .i64 0) := (blk_cell BK293.out 8).trans rfl; have hcz34_9 : w30.cell? ⟨gb293, 9, none⟩ = some (.int .i64 0) := (blk_cell BK293.out 9).trans rfl; have hfz34_0 := blk_frozen BK293.out 0; have hfz34_1 := blk_frozen BK293.out 1; have hfz34_2 := blk_frozen BK293.out 2; have hfz34_3 := blk_frozen BK293.out 3; have hfz34_4 := blk_frozen BK293.out 4; have hfz34_5 := blk_frozen BK293.out 5; have hfz34_6 := blk_frozen BK293.out 6; have hfz34_7 := blk_frozen BK293.out 7; have hfz34_8 := blk_frozen BK293.out 8; have hfz34_9 := blk_frozen BK293.out 9; have hcz35_0 : w30.cell? ⟨gb257, 0, none⟩ = some (.int .i64 t246) := (blk_cell BK257.out 0).trans rfl; have hcz35_1 : w30.cell? ⟨gb257, 1, none⟩ = some (.string t247) := (blk_cell BK257.out 1).trans rfl; have hcz35_2 : w30.cell? ⟨gb257, 2, none⟩ = some (.string t248) := (blk_cell BK257.out 2).trans rfl; have hcz35_3 : w30.cell? ⟨gb257, 3, none⟩ = some (.int .i64 t249) := (blk_cell BK257.out 3).trans rfl; have hcz35_4 : w30.cell? ⟨gb257, 4, none⟩ = some (.string t250) := (blk_cell BK257.out 4).trans rfl; have hcz35_5 : w30.cell? ⟨gb257, 5, none⟩ = some (.int .i64 t251) := (blk_cell BK257.out 5).trans rfl; have hcz35_6 : w30.cell? ⟨gb257, 6, none⟩ = some (.bool t252) := (blk_cell BK257.out 6).trans rfl; have hcz35_7 : w30.cell? ⟨gb257, 7, none⟩ = some (.int .i64 t253) := (blk_cell BK257.out 7).trans rfl; have hcz35_8 : w30.cell? ⟨gb257, 8, none⟩ = some (.int .i64 t254) := (blk_cell BK257.out 8).trans rfl; have hcz35_9 : w30.cell? ⟨gb257, 9, none⟩ = some (.int .i64 t255) := (blk_cell BK257.out 9).trans rfl; have hfz35_0 := blk_frozen BK257.out 0; have hfz35_1 := blk_frozen BK257.out 1; have hfz35_2 := blk_frozen BK257.out 2; have hfz35_3 := blk_frozen BK257.out 3; have hfz35_4 := blk_frozen BK257.out 4; have hfz35_5 := blk_frozen BK257.out 5; have hfz35_6 := blk_frozen BK257.out 6; have hfz35_7 := blk_frozen BK257.out 7; have hfz35_8 := blk_frozen BK257.out 8; have hfz35_9 := blk_frozen BK257.out 9) | (go_at_call 14; (with_reducible refine (order_Text.calls k t246 t247 t248 t249 t250 t251 t252 t253 t254 t255 t294 _ (⟨Ext.tab_below hT.out (by repeat (first | (with_reducible first | exact HB.out | apply below_alloc | apply pw_below_drewN | apply below_drew1 | refine below_set ?_ GE257.out | refine below_set ?_ GE269.out | refine below_set ?_ GE281.out | refine below_set ?_ GE293.out) | exact HB.out))⟩) A9.out).mono ?_); rintro e w36 ⟨rfl, hb⟩; have n0_ := Aside0.mk (blk_below (g := gb257) (o := .cells #[.int .i64 t246, .string t247, .string t248, .int .i64 t249, .string t250, .int .i64 t251, .bool t252, .int .i64 t253, .int .i64 t254, .int .i64 t255] 27 (0, 0)) (by (with_reducible repeat (first | refine blk_drewN ?_ _ | refine blk_drew ?_ | refine blk_alloc ?_ _)); refine blk_far ?_ NB257_293.out _; (with_reducible repeat (first | refine blk_drewN ?_ _ | refine blk_drew ?_ | refine blk_alloc ?_ _)); refine blk_far ?_ NB257_293.out _; (with_reducible repeat (first | refine blk_drewN ?_ _ | refine blk_drew ?_ | refine blk_alloc ?_ _)); refine blk_far ?_ NB257_293.out _; (with_reducible repeat (first | refine blk_drewN ?_ _ | refine blk_drew ?_ | refine blk_alloc ?_ _)); refine blk_far ?_ NB257_293.out _; (with_reducible repeat (first | refine blk_drewN ?_ _ | refine blk_drew ?_ | refine blk_alloc ?_ _)); refine blk_far ?_ NB257_293.out _; (with_reducible repeat (first | refine blk_drewN ?_ _ | refine blk_drew ?_ | refine blk_alloc ?_ _)); refine blk_far ?_ NB257_293.out _; (with_reducible repeat (first | refine blk_drewN ?_ _ | refine blk_drew ?_ | refine blk_alloc ?_ _)); refine blk_far ?_ NB257_293.out _; (with_reducible repeat (first | refine blk_drewN ?_ _ | refine blk_drew ?_ | refine blk_alloc ?_ _)); refine blk_far ?_ NB257_293.out _; (with_reducible repeat (first | refine blk_drewN ?_ _ | refine blk_drew ?_ | refine blk_alloc ?_ _)); refine blk_far ?_ NB257_293.out _; (with_reducible repeat (first | refine blk_drewN ?_ _ | refine blk_drew ?_ | refine blk_alloc ?_ _)); refine blk_far ?_ NB257_293.out _; (with_reducible repeat (first | refine blk_drewN ?_ _ | refine blk_drew ?_ | refine blk_alloc ?_ _)); exact BK257.out) hb); have n1_ := Aside0.mk (blk_below (g := gb269) (o := .cells #[.int .i64 t258, .string t259, .string t260, .int .i64 t261, .string t262, .int .i64 t263, .bool t264, .int .i64 t265, .int .i64 t266, .int .i64 t267] 27 (0, 0)) (by (with_reducible repeat (first | refine blk_drewN ?_ _ | refine blk_drew ?_ | refine blk_alloc ?_ _)); refine blk_far ?_ NB269_293.out _; (with_reducible repeat (first | refine blk_drewN ?_ _ | refine blk_drew ?_ | refine blk_alloc ?_ _)); refine blk_far ?_ NB269_293.out _; (with_reducible repeat (first | refine blk_drewN ?_ _ | refine blk_drew ?_ | refine blk_alloc ?_ _)); refine blk_far ?_ NB269_293.out _; (with_reducible repeat (first | refine blk_drewN ?_ _ | refine blk_drew ?_ | refine blk_alloc ?_ _)); refine blk_far ?_ NB269_293.out _; (with_reducible repeat (first | refine blk_drewN ?_ _ | refine blk_drew ?_ | refine blk_alloc ?_ _)); refine blk_far ?_ NB269_293.out _; (with_reducible repeat (first | refine blk_drewN ?_ _ | refine blk_drew ?_ | refine blk_alloc ?_ _)); refine blk_far ?_ NB269_293.out _; (with_reducible repeat (first | refine blk_drewN ?_ _ | refine blk_drew ?_ | refine blk_alloc ?_ _)); refine blk_far ?_ NB269_293.out _; (with_reducible repeat (first | refine blk_drewN ?_ _ | refine blk_drew ?_ | refine blk_alloc ?_ _)); refine blk_far ?_ NB269_293.out _; (with_reducible repeat (first | refine blk_drewN ?_ _ | refine blk_drew ?_ | refine blk_alloc ?_ _)); refine blk_far ?_ NB269_293.out _; (with_reducible repeat (first | refine blk_drewN ?_ _ | refine blk_drew ?_ | refine blk_alloc ?_ _)); refine blk_far ?_ NB269_293.out _; (with_reducible repeat (first | refine blk_drewN ?_ _ | refine blk_drew ?_ | refine blk_alloc ?_ _)); exact BK269.out) hb); have n2_ := Aside0.mk (blk_below (g := gb281) (o := .cells #[.int .i64 t270, .string t271, .string t272, .int .i64 t273, .string t274, .int .i64 t275, .bool t276, .int .i64 t277, .int .i64 t278, .int .i64 t279] 27 (0, 0)) (by (with_reducible repeat (first | refine blk_drewN ?_ _ | refine blk_drew ?_ | refine blk_alloc ?_ _)); refine blk_far ?_ NB281_293.out _; (with_reducible repeat (first | refine blk_drewN ?_ _ | refine blk_drew ?_ | refine blk_alloc ?_ _)); refine blk_far ?_ NB281_293.out _; (with_reducible repeat (first | refine blk_drewN ?_ _ | refine blk_drew ?_ | refine blk_alloc ?_ _)); refine blk_far ?_ NB281_293.out _; (with_reducible repeat (first | refine blk_drewN ?_ _ | refine blk_drew ?_ | refine blk_alloc ?_ _)); refine blk_far ?_ NB281_293.out _; (with_reducible repeat (first | refine blk_drewN ?_ _ | refine blk_drew ?_ | refine blk_alloc ?_ _)); refine blk_far ?_ NB281_293.out _; (with_reducible repeat (first | refine blk_drewN ?_ _ | refine blk_drew ?_ | refine blk_alloc ?_ _)); refine blk_far ?_ NB281_293.out _; (with_reducible repeat (first | refine blk_drewN ?_ _ | refine blk_drew ?_ | refine blk_alloc ?_ _)); refine blk_far ?_ NB281_293.out _; (with_reducible repeat (first | refine blk_drewN ?_ _ | refine blk_drew ?_ | refine blk_alloc ?_ _)); refine blk_far ?_ NB281_293.out _; (with_reducible repeat (first | refine blk_drewN ?_ _ | refine blk_drew ?_ | refine blk_alloc ?_ _)); refine blk_far ?_ NB281_293.out _; (with_reducible repeat (first | refine blk_drewN ?_ _ | refine blk_drew ?_ | refine blk_alloc ?_ _)); refine blk_far ?_ NB281_293.out _; (with_reducible repeat (first | refine blk_drewN ?_ _ | refine blk_drew ?_ | refine blk_alloc ?_ _)); exact BK281.out) hb); have n3_ := Aside0.mk (blk_below (g := gb293) (o := .cells #[.int .i64 t282, .string t283, .string t284, .int .i64 t285, .string t286, .int .i64 t287, .bool t288, .int .i64 t289, .int .i64 t290, .int .i64 t291] 27 (0, 0)) (by (with_reducible repeat (first | refine blk_drewN ?_ _ | refine blk_drew ?_ | refine blk_alloc ?_ _)); refine blk_put (cs := #[.int .i64 t282, .string t283, .string t284, .int .i64 t285, .string t286, .int .i64 t287, .bool t288, .int .i64 t289, .int .i64 t290, .int .i64 0]) ?_ 9 _ rfl; (with_reducible repeat (first | refine blk_drewN ?_ _ | refine blk_drew ?_ | refine blk_alloc ?_ _)); refine blk_put (cs := #[.int .i64 t282, .string t283, .string t284, .int .i64 t285, .string t286, .int .i64 t287, .bool t288, .int .i64 t289, .int .i64 0, .int .i64 0]) ?_ 8 _ rfl; (with_reducible repeat (first | refine blk_drewN ?_ _ | refine blk_drew ?_ | refine blk_alloc ?_ _)); refine blk_put (cs := #[.int .i64 t282, .string t283, .string t284, .int .i64 t285, .string t286, .int .i64 t287, .bool t288, .int .i64 0, .int .i64 0, .int .i64 0]) ?_ 7 _ rfl; (with_reducible repeat (first | refine blk_drewN ?_ _ | refine blk_drew ?_ | refine blk_alloc ?_ _)); refine blk_put (cs := #[.int .i64 t282, .string t283, .string t284, .int .i64 t285, .string t286, .int .i64 t287, .bool false, .int .i64 0, .int .i64 0, .int .i64 0]) ?_ 6 _ rfl; (with_reducible repeat (first | refine blk_drewN ?_ _ | refine blk_drew ?_ | refine blk_alloc ?_ _)); refine blk_put (cs := #[.int .i64 t282, .string t283, .string t284, .int .i64 t285, .string t286, .int .i64 0, .bool false, .int .i64 0, .int .i64 0, .int .i64 0]) ?_ 5 _ rfl; (with_reducible repeat (first | refine blk_drewN ?_ _ | refine blk_drew ?_ | refine blk_alloc ?_ _)); refine blk_put (cs := #[.int .i64 t282, .string t283, .string t284, .int .i64 t285, .string (⟨#[]⟩ : ByteArray), .int .i64 0, .bool false, .int .i64 0, .int .i64 0, .int .i64 0]) ?_ 4 _ rfl; (with_reducible repeat (first | refine blk_drewN ?_ _ | refine blk_drew ?_ | refine blk_alloc ?_ _)); refine blk_put (cs := #[.int .i64 t282, .string t283, .string t284, .int .i64 0, .string (⟨#[]⟩ : ByteArray), .int .i64 0, .bool false, .int .i64 0, .int .i64 0, .int .i64 0]) ?_ 3 _ rfl; (with_reducible repeat (first | refine blk_drewN ?_ _ | refine blk_drew ?_ | refine blk_alloc ?_ _)); refine blk_put (cs := #[.int .i64 t282, .string t283, .string (⟨#[]⟩ : ByteArray), .int .i64 0, .string (⟨#[]⟩ : ByteArray), .int .i64 0, .bool false, .int .i64 0, .int .i64 0, .int .i64 0]) ?_ 2 _ rfl; (with_reducible repeat (first | refine blk_drewN ?_ _ | refine blk_drew ?_ | refine blk_alloc ?_ _)); refine blk_put (cs := #[.int .i64 t282, .string (⟨#[]⟩ : ByteArray), .string (⟨#[]⟩ : ByteArray), .int .i64 0, .string (⟨#[]⟩ : ByteArray), .int .i64 0, .bool false, .int .i64 0, .int .i64 0, .int .i64 0]) ?_ 1 _ rfl; (with_reducible repeat (first | refine blk_drewN ?_ _ | refine blk_drew ?_ | refine blk_alloc ?_ _)); refine blk_put (cs := #[.int .i64 0, .string (⟨#[]⟩ : ByteArray), .string (⟨#[]⟩ : ByteArray), .int .i64 0, .string (⟨#[]⟩ : ByteArray), .int .i64 0, .bool false, .int .i64 0, .int .i64 0, .int .i64 0]) ?_ 0 _ rfl; (with_reducible repeat (first | refine blk_drewN ?_ _ | refine blk_drew ?_ | refine blk_alloc ?_ _)); exact BK293.out) hb); have n4_ := Aside0.mk (below_step (by repeat (first | (with_reducible first | exact HB.out | apply below_alloc | apply pw_below_drewN | apply below_drew1 | refine below_set ?_ GE257.out | refine below_set ?_ GE269.out | refine below_set ?_ GE281.out | refine below_set ?_ GE293.out) | exact HB.out)) hb); clear BK257; clear BK269; clear BK281; clear BK293; clear HB; have BK257 := n0_; have BK269 := n1_; have BK281 := n2_; have BK293 := n3_; have HB := n4_; clear n0_ n1_ n2_ n3_ n4_; (try clear hb); (try clear hb2); (try clear hk); (try clear hi)) | (go_at_call 21; (with_reducible refine (order_Changes.calls 3 true _ A14.out).mono ?_); rintro e w' ⟨rfl, ⟨nd, rfl⟩⟩) | (go_at_call 18; (with_reducible refine (order_Verbs.calls  t296 _ A16.out).mono ?_); rintro e w37 ⟨v297, rfl, ho0, hb⟩; have n0_ := Aside0.mk (Kd.R_lower ho0 (below_size (by repeat (first | (with_reducible first | exact HB.out | apply below_alloc | apply pw_below_drewN | apply below_drew1 | refine below_set ?_ GE257.out | refine below_set ?_ GE269.out | refine below_set ?_ GE281.out | refine below_set ?_ GE293.out) | exact HB.out)))); have n1_ := Aside0.mk (blk_below (g := gb257) (o := .cells #[.int .i64 t246, .string t247, .string t248, .int .i64 t249, .string t250, .int .i64 t251, .bool t252, .int .i64 t253, .int .i64 t254, .int .i64 t255] 27 (0, 0)) (by (with_reducible repeat (first | refine blk_drewN ?_ _ | refine blk_drew ?_ | refine blk_alloc ?_ _)); exact BK257.out) hb); have n2_ := Aside0.mk (blk_below (g := gb269) (o := .cells #[.int .i64 t258, .string t259, .string t260, .int .i64 t261, .string t262, .int .i64 t263, .bool t264, .int .i64 t265, .int .i64 t266, .int .i64 t267] 27 (0, 0)) (by (with_reducible repeat (first | refine blk_drewN ?_ _ | refine blk_drew ?_ | refine blk_alloc ?_ _)); exact BK269.out) hb); have n3_ := Aside0.mk (blk_below (g := gb281) (o := .cells #[.int .i64 t270, .string t271, .string t272, .int .i64 t273, .string t274, .int .i64 t275, .bool t276, .int .i64 t277, .int .i64 t278, .int .i64 t279] 27 (0, 0)) (by (with_reducible repeat (first | refine blk_drewN ?_ _ | refine blk_drew ?_ | refine blk_alloc ?_ _)); exact BK281.out) hb); have n4_ := Aside0.mk (blk_below (g := gb293) (o := .cells #[.int .i64 t282, .string t283, .string t284, .int .i64 t285, .string t286, .int .i64 t287, .bool t288, .int .i64 t289, .int .i64 t290, .int .i64 t291] 27 (0, 0)) (by (with_reducible repeat (first | refine blk_drewN ?_ _ | refine blk_drew ?_ | refine blk_alloc ?_ _)); exact BK293.out) hb); have n5_ := Aside0.mk (below_step (by repeat (first | (with_reducible first | exact HB.out | apply below_alloc | apply pw_below_drewN | apply below_drew1 | refine below_set ?_ GE257.out | refine below_set ?_ GE269.out | refine below_set ?_ GE281.out | refine below_set ?_ GE293.out) | exact HB.out)) hb); clear BK257; clear BK269; clear BK281; clear BK293; clear HB; have HO298 := n0_; have BK257 := n1_; have BK269 := n2_; have BK281 := n3_; have BK293 := n4_; have HB := n5_; clear n0_ n1_ n2_ n3_ n4_ n5_; (try clear hb); (try clear hb2); (try clear hk); (try clear hi); (try clear ho0); obtain ⟨Ao38, co38, eo38⟩ := Kd.R_slice HO298.out; subst eo38))
          go_ret
          exact ⟨by first | rfl | (simp [errW_none, errW_some] <;> rfl) | (simp [*, errW_none, errW_some] <;> rfl), by repeat (first | (with_reducible first | exact HB.out | apply below_alloc | apply pw_below_drewN | apply below_drew1 | refine below_set ?_ GE257.out | refine below_set ?_ GE269.out | refine below_set ?_ GE281.out | refine below_set ?_ GE293.out) | exact HB.out)⟩
         ·replace c15 := Bool.eq_false_iff.mpr c15
          subst c15
          have H1 : (some false) = some r := by rw [if_neg (show ¬ (false = true) by decide)] at H; exact H
          clear H
          have H := H1
          clear H1
          exact absurd ((Option.some.inj H).trans hr) Bool.false_ne_true
        ·rw [if_neg c13] at H
         have c13b0 : (t292 == 160) = false := beq_eq_false_iff_ne.mpr c13
         have c13b1 : (t292 != 160) = true := bne_iff_ne.mpr c13
         exact absurd ((Option.some.inj H).trans hr) Bool.false_ne_true
       ·rw [if_neg c12] at H
        have c12b0 : (t280 == 162) = false := beq_eq_false_iff_ne.mpr c12
        have c12b1 : (t280 != 162) = true := bne_iff_ne.mpr c12
        exact absurd ((Option.some.inj H).trans hr) Bool.false_ne_true
      ·rw [if_neg c11] at H
       have c11b0 : (t268 == 161) = false := beq_eq_false_iff_ne.mpr c11
       have c11b1 : (t268 != 161) = true := bne_iff_ne.mpr c11
       exact absurd ((Option.some.inj H).trans hr) Bool.false_ne_true
     ·rw [if_neg c10] at H
      have c10b0 : (t294.toList == ([116, 111, 120, 105, 99, 32, 97, 100, 100, 32, 112, 32, 108, 97, 103, 32, 108, 97, 116, 101, 110, 99, 121, 32, 117, 112, 32, 49, 48, 48, 32, 53, 32, 49] : List UInt8)) = false := beq_eq_false_iff_ne.mpr c10
      have c10b1 : (t294.toList != ([116, 111, 120, 105, 99, 32, 97, 100, 100, 32, 112, 32, 108, 97, 103, 32, 108, 97, 116, 101, 110, 99, 121, 32, 117, 112, 32, 49, 48, 48, 32, 53, 32, 49] : List UInt8)) = true := bne_iff_ne.mpr c10
      exact absurd ((Option.some.inj H).trans hr) Bool.false_ne_true
    ·rw [if_neg c8] at H
     have c8b0 : (t254 == 5) = false := beq_eq_false_iff_ne.mpr c8
     have c8b1 : (t254 != 5) = true := bne_iff_ne.mpr c8
     exact absurd ((Option.some.inj H).trans hr) Bool.false_ne_true
   ·rw [if_neg c7] at H
    have c7b0 : (t247.toList == ([112] : List UInt8)) = false := beq_eq_false_iff_ne.mpr c7
    have c7b1 : (t247.toList != ([112] : List UInt8)) = true := bne_iff_ne.mpr c7
    exact absurd ((Option.some.inj H).trans hr) Bool.false_ne_true
  ·rw [if_neg c6] at H
   have c6b0 : (t246 == 5) = false := beq_eq_false_iff_ne.mpr c6
   have c6b1 : (t246 != 5) = true := bne_iff_ne.mpr c6
   exact absurd ((Option.some.inj H).trans hr) Bool.false_ne_true
 ·rw [if_neg c5] at H
  have c5b0 : (t256 == 0) = false := beq_eq_false_iff_ne.mpr c5
  have c5b1 : (t256 != 0) = true := bne_iff_ne.mpr c5
  exact absurd ((Option.some.inj H).trans hr) Bool.false_ne_true
set_option maxRecDepth 100000 in
theorem chicanelaw16_alive.at100 : chicanelaw16_alive.f 100 = some true := by kernel_rfl
theorem chicanelaw16_alive.only (k : Nat) (r : Bool) (h : chicanelaw16_alive.f k = some r) : r = true := by
 have h1 : chicanelaw16_alive.f (k + 100) = some r := by
  generalize 100 = m
  induction m with
  | zero => exact h
  | succ m ih => exact chicanelaw16_alive.mono _ _ ih
 have h2 : chicanelaw16_alive.f (100 + k) = some true := by
  clear h h1
  induction k with
  | zero => exact chicanelaw16_alive.at100
  | succ k ih => exact chicanelaw16_alive.mono _ _ ih
 rw [Nat.add_comm, h2] at h1
 exact (Option.some.inj h1).symm
theorem chicanelaw16_alive.calls (k : Nat) (r : Bool) (w : World) (hT : Aside0 (Ext.Tab w)) (h : chicanelaw16_alive.f k = some r) :
  Calls Tryz.prog 8 #[] w fun e w' => e = .returned (.bool r) ∧ Below w.heap.size w w' :=
 chicanelaw16_alive.calls_t k r w hT (chicanelaw16_alive.only k r h) h
end Go.Proofs.YtlglbpjccpdloaaGreatDoor.POrdB
namespace Go.Proofs.YtlglbpjccpdloaaGreatDoor.POrdB
open Go.Proofs.YtlglbpjccpdloaaGreatDoor.Ext Go.Proofs.YtlglbpjccpdloaaGreatDoor.ToxZ Go.Proofs.YtlglbpjccpdloaaGreatDoor.PWrdA Go.RowKit Go.Proofs.YtlglbpjccpdloaaGreatDoorW.PrintWords Go.Proofs.YtlglbpjccpdloaaGreatDoorW.PrintLast Go.Proofs.YtlglbpjccpdloaaGreatDoorW.PrintMore
attribute [local go_sem] max2_int min2_int max_two min_two max_three min_three max_four min_four   -- for this text's walks alone
set_option linter.unusedVariables false
set_option linter.unusedSimpArgs false
def chicanelaw16_OrderWrites.f (k : Nat) (a0_0 : Int) (a0_1 : ByteArray) (a0_2 : ByteArray) (a0_3 : Int) (a0_4 : ByteArray) (a0_5 : Int) (a0_6 : Bool) (a0_7 : Int) (a0_8 : Int) (a0_9 : Int) : Option (Bool) := if (wrap64 ((wrap64 ((a0_1.size : Int) + (a0_2.size : Int))) + (a0_4.size : Int))) > 1000 then ((chicanelaw16_alive.f k).bind fun t327 => (some t327)) else ((chicanelaw16_alive.f k).bind fun t328 => (if t328 = true then ((order_Words.f k a0_0 a0_1 a0_2 a0_3 a0_4 a0_5 a0_6 a0_7 a0_8 a0_9).bind fun t329 => ((chicaneref16_Words.f k a0_0 a0_1 a0_2 a0_3 a0_4 a0_5 a0_6 a0_7 a0_8 a0_9).bind fun t332 => ((chicaneref15_Same.f k t329 t332).bind fun t335 => (if t335 = true then ((order_Text.f k a0_0 a0_1 a0_2 a0_3 a0_4 a0_5 a0_6 a0_7 a0_8 a0_9).bind fun t336 => ((chicaneref16_Text.f k a0_0 a0_1 a0_2 a0_3 a0_4 a0_5 a0_6 a0_7 a0_8 a0_9).bind fun t337 => (some (t336.toList == t337.toList)))) else (some false))))) else (some false)))
def chicanelaw16_OrderWrites.T3 : Bool × List (List Nat × List Nat) := (true, [([], []), ([0, 0], [0]), ([1], [1]), ([2, 1, 1], [1, 2]), ([1], [1]), ([4, 3, 1], [1, 4]), ([3, 5, 5, 1], [1, 3, 5]), ([1, 6], [1, 6]), ([7, 6], [7]), ([8], [8]), ([9, 8, 8], [8, 9]), ([8], [8]), ([11, 10, 8], [8, 11]), ([10, 12, 8], [8, 10, 12]), ([8, 13], [8, 13]), ([14, 12, 0, 1, 2, 3, 4, 5, 6, 7, 8, 9, 10, 11, 12, 13, 14], [14])])
def chicanelaw16_OrderWrites.B3 : List Nat := [0, 1, 3, 7, 3, 31, 63, 127, 255, 511, 1023, 511, 4095, 8191, 16383, 32767]
theorem chicanelaw16_OrderWrites.tab3 : rtab .any (opsOf Tryz.f4 3) = chicanelaw16_OrderWrites.T3 := by kernel_rfl
theorem chicanelaw16_OrderWrites.bits3 : waitsOk chicanelaw16_OrderWrites.T3.2 chicanelaw16_OrderWrites.B3 = true := by kernel_rfl
set_option maxHeartbeats 8000000 in
set_option maxRecDepth 100000 in
theorem chicanelaw16_OrderWrites.calls (k : Nat) (a0_0 : Int) (a0_1 : ByteArray) (a0_2 : ByteArray) (a0_3 : Int) (a0_4 : ByteArray) (a0_5 : Int) (a0_6 : Bool) (a0_7 : Int) (a0_8 : Int) (a0_9 : Int) (r : Bool) (w : World) (hT : Aside0 (Ext.Tab w)) (hr : r = true) (h : chicanelaw16_OrderWrites.f k a0_0 a0_1 a0_2 a0_3 a0_4 a0_5 a0_6 a0_7 a0_8 a0_9 = some r) :
  Calls Tryz.prog 4 #[.agg #[.int .i64 a0_0, .string a0_1, .string a0_2, .int .i64 a0_3, .string a0_4, .int .i64 a0_5, .bool a0_6, .int .i64 a0_7, .int .i64 a0_8, .int .i64 a0_9]] w fun e w' => e = .returned (.bool r) ∧ Below w.heap.size w w' := by
 have hu31 := Tryz.underlying31
 have HB := Aside0.mk (Below.refl w.heap.size w)
 have H : (if (wrap64 ((wrap64 ((a0_1.size : Int) + (a0_2.size : Int))) + (a0_4.size : Int))) > 1000 then ((chicanelaw16_alive.f k).bind fun t327 => (some t327)) else ((chicanelaw16_alive.f k).bind fun t328 => (if t328 = true then ((order_Words.f k a0_0 a0_1 a0_2 a0_3 a0_4 a0_5 a0_6 a0_7 a0_8 a0_9).bind fun t329 => ((chicaneref16_Words.f k a0_0 a0_1 a0_2 a0_3 a0_4 a0_5 a0_6 a0_7 a0_8 a0_9).bind fun t332 => ((chicaneref15_Same.f k t329 t332).bind fun t335 => (if t335 = true then ((order_Text.f k a0_0 a0_1 a0_2 a0_3 a0_4 a0_5 a0_6 a0_7 a0_8 a0_9).bind fun t336 => ((chicaneref16_Text.f k a0_0 a0_1 a0_2 a0_3 a0_4 a0_5 a0_6 a0_7 a0_8 a0_9).bind fun t337 => (some (t336.toList == t337.toList)))) else (some false))))) else (some false)))) = some r := h
 clear h
 by_cases c2 : (wrap64 ((wrap64 ((a0_1.size : Int) + (a0_2.size : Int))) + (a0_4.size : Int))) > 1000
 ·rw [if_pos c2] at H
  have c2b0 : decide (1000 < (wrap64 ((wrap64 ((a0_1.size : Int) + (a0_2.size : Int))) + (a0_4.size : Int)))) = true := decide_eq_true c2
  clear c2
  replace H := Option.bind_eq_some_iff.mp H
  obtain ⟨t327, A30, H⟩ := H
  replace H : (some t327) = some r := H
  have A3 := Aside0.mk A30
  clear A30
  obtain rfl := Option.some.inj H
  go_enter Tryz.func4, Tryz.ntmps4
  go_wp2_with (first | ((with_reducible refine gate_dst (N := 1) rfl ?_); refine box_event ?hg (N := 1) ?hd (cs := #[.int .i64 a0_0, .string a0_1, .string a0_2, .int .i64 a0_3, .string a0_4, .int .i64 a0_5, .bool a0_6, .int .i64 a0_7, .int .i64 a0_8, .int .i64 a0_9]) (t := 31) ?hr ?_; (case hd => rfl); (case hg => rfl); (case hr => first | (go_simp; done) | (go_simp; rfl)); intro gb326 hg w4 hbox hb; have n0_ := Aside0.mk (below_step (by repeat (first | (with_reducible first | exact HB.out | apply below_alloc | apply pw_below_drewN | apply below_drew1) | exact HB.out)) hb); have n1_ := Aside0.mk (hbox); have n2_ := Aside0.mk ((by rw [hg]; exact (below_size (by repeat (first | (with_reducible first | exact HB.out | apply below_alloc | apply pw_below_drewN | apply below_drew1) | exact HB.out))) : w.heap.size ≤ gb326)); have n3_ := Aside0.mk ((by rw [hg]; exact (below_size (by repeat (first | (with_reducible first | exact HB.out | apply below_alloc | apply pw_below_drewN | apply below_drew1) | exact HB.out))) : w.heap.size ≤ gb326)); clear HB; have HB := n0_; have BK326 := n1_; have GW326 := n2_; have GE326 := n3_; clear n0_ n1_ n2_ n3_; clear hb hbox hg; have hcz5_0 : w4.cell? ⟨gb326, 0, none⟩ = some (.int .i64 a0_0) := (blk_cell BK326.out 0).trans rfl; have hcz5_1 : w4.cell? ⟨gb326, 1, none⟩ = some (.string a0_1) := (blk_cell BK326.out 1).trans rfl; have hcz5_2 : w4.cell? ⟨gb326, 2, none⟩ = some (.string a0_2) := (blk_cell BK326.out 2).trans rfl; have hcz5_3 : w4.cell? ⟨gb326, 3, none⟩ = some (.int .i64 a0_3) := (blk_cell BK326.out 3).trans rfl; have hcz5_4 : w4.cell? ⟨gb326, 4, none⟩ = some (.string a0_4) := (blk_cell BK326.out 4).trans rfl; have hcz5_5 : w4.cell? ⟨gb326, 5, none⟩ = some (.int .i64 a0_5) := (blk_cell BK326.out 5).trans rfl; have hcz5_6 : w4.cell? ⟨gb326, 6, none⟩ = some (.bool a0_6) := (blk_cell BK326.out 6).trans rfl; have hcz5_7 : w4.cell? ⟨gb326, 7, none⟩ = some (.int .i64 a0_7) := (blk_cell BK326.out 7).trans rfl; have hcz5_8 : w4.cell? ⟨gb326, 8, none⟩ = some (.int .i64 a0_8) := (blk_cell BK326.out 8).trans rfl; have hcz5_9 : w4.cell? ⟨gb326, 9, none⟩ = some (.int .i64 a0_9) := (blk_cell BK326.out 9).trans rfl; have hfz5_0 := blk_frozen BK326.out 0; have hfz5_1 := blk_frozen BK326.out 1; have hfz5_2 := blk_frozen BK326.out 2; have hfz5_3 := blk_frozen BK326.out 3; have hfz5_4 := blk_frozen BK326.out 4; have hfz5_5 := blk_frozen BK326.out 5; have hfz5_6 := blk_frozen BK326.out 6; have hfz5_7 := blk_frozen BK326.out 7; have hfz5_8 := blk_frozen BK326.out 8; have hfz5_9 := blk_frozen BK326.out 9) | ((with_reducible refine gate_callee (f := 8) rfl ?_); refine goesL_ (some 16) rfl rfl Tryz.func8 (by kernel_rfl) rfl #[] rfl (by (try simp only [List.map_toArray, List.map_cons, List.map_nil]); first | done | rfl | (simp only [List.length_drop, List.length_take]; rfl)) ?_; (with_reducible refine (chicanelaw16_alive.calls k  t327 _ (⟨Ext.tab_below hT.out (by repeat (first | (with_reducible first | exact HB.out | apply below_alloc | apply pw_below_drewN | apply below_drew1 | refine below_set ?_ GE326.out) | exact HB.out))⟩) A3.out).mono ?_); rintro e w6 ⟨rfl, hb⟩; refine ⟨_, rfl, ?_⟩; have n0_ := Aside0.mk (blk_below (g := gb326) (o := .cells #[.int .i64 a0_0, .string a0_1, .string a0_2, .int .i64 a0_3, .string a0_4, .int .i64 a0_5, .bool a0_6, .int .i64 a0_7, .int .i64 a0_8, .int .i64 a0_9] 31 (0, 0)) (by (with_reducible repeat (first | refine blk_drewN ?_ _ | refine blk_drew ?_ | refine blk_alloc ?_ _)); exact BK326.out) hb); have n1_ := Aside0.mk (below_step (by repeat (first | (with_reducible first | exact HB.out | apply below_alloc | apply pw_below_drewN | apply below_drew1 | refine below_set ?_ GE326.out) | exact HB.out)) hb); clear BK326; clear HB; have BK326 := n0_; have HB := n1_; clear n0_ n1_; (try clear hb); (try clear hb2); (try clear hk); (try clear hi)))
  go_ret
  exact ⟨by first | rfl | (simp [errW_none, errW_some] <;> rfl) | (simp [*, errW_none, errW_some] <;> rfl), by repeat (first | (with_reducible first | exact HB.out | apply below_alloc | apply pw_below_drewN | apply below_drew1 | refine below_set ?_ GE326.out) | exact HB.out)⟩
 ·rw [if_neg c2] at H
  have c2b0 : decide (1000 < (wrap64 ((wrap64 ((a0_1.size : Int) + (a0_2.size : Int))) + (a0_4.size : Int)))) = false := decide_eq_false c2
  clear c2
  replace H := Option.bind_eq_some_iff.mp H
  obtain ⟨t328, A70, H⟩ := H
  replace H : (if t328 = true then ((order_Words.f k a0_0 a0_1 a0_2 a0_3 a0_4 a0_5 a0_6 a0_7 a0_8 a0_9).bind fun t329 => ((chicaneref16_Words.f k a0_0 a0_1 a0_2 a0_3 a0_4 a0_5 a0_6 a0_7 a0_8 a0_9).bind fun t332 => ((chicaneref15_Same.f k t329 t332).bind fun t335 => (if t335 = true then ((order_Text.f k a0_0 a0_1 a0_2 a0_3 a0_4 a0_5 a0_6 a0_7 a0_8 a0_9).bind fun t336 => ((chicaneref16_Text.f k a0_0 a0_1 a0_2 a0_3 a0_4 a0_5 a0_6 a0_7 a0_8 a0_9).bind fun t337 => (some (t336.toList == t337.toList)))) else (some false))))) else (some false)) = some r := H
  have A7 := Aside0.mk A70
  clear A70
  by_cases c8 : t328 = true
  ·subst c8
   have H1 : ((order_Words.f k a0_0 a0_1 a0_2 a0_3 a0_4 a0_5 a0_6 a0_7 a0_8 a0_9).bind fun t329 => ((chicaneref16_Words.f k a0_0 a0_1 a0_2 a0_3 a0_4 a0_5 a0_6 a0_7 a0_8 a0_9).bind fun t332 => ((chicaneref15_Same.f k t329 t332).bind fun t335 => (if t335 = true then ((order_Text.f k a0_0 a0_1 a0_2 a0_3 a0_4 a0_5 a0_6 a0_7 a0_8 a0_9).bind fun t336 => ((chicaneref16_Text.f k a0_0 a0_1 a0_2 a0_3 a0_4 a0_5 a0_6 a0_7 a0_8 a0_9).bind fun t337 => (some (t336.toList == t337.toList)))) else (some false))))) = some r := by rw [if_pos rfl] at H; exact H
   clear H
   have H := H1
   clear H1
   replace H := Option.bind_eq_some_iff.mp H
   obtain ⟨t329, A90, H⟩ := H
   replace H : ((chicaneref16_Words.f k a0_0 a0_1 a0_2 a0_3 a0_4 a0_5 a0_6 a0_7 a0_8 a0_9).bind fun t332 => ((chicaneref15_Same.f k t329 t332).bind fun t335 => (if t335 = true then ((order_Text.f k a0_0 a0_1 a0_2 a0_3 a0_4 a0_5 a0_6 a0_7 a0_8 a0_9).bind fun t336 => ((chicaneref16_Text.f k a0_0 a0_1 a0_2 a0_3 a0_4 a0_5 a0_6 a0_7 a0_8 a0_9).bind fun t337 => (some (t336.toList == t337.toList)))) else (some false)))) = some r := H
   have A9 := Aside0.mk A90
   clear A90
   replace H := Option.bind_eq_some_iff.mp H
   obtain ⟨t332, A100, H⟩ := H
   replace H : ((chicaneref15_Same.f k t329 t332).bind fun t335 => (if t335 = true then ((order_Text.f k a0_0 a0_1 a0_2 a0_3 a0_4 a0_5 a0_6 a0_7 a0_8 a0_9).bind fun t336 => ((chicaneref16_Text.f k a0_0 a0_1 a0_2 a0_3 a0_4 a0_5 a0_6 a0_7 a0_8 a0_9).bind fun t337 => (some (t336.toList == t337.toList)))) else (some false))) = some r := H
   have A10 := Aside0.mk A100
   clear A100
   replace H := Option.bind_eq_some_iff.mp H
   obtain ⟨t335, A110, H⟩ := H
   replace H : (if t335 = true then ((order_Text.f k a0_0 a0_1 a0_2 a0_3 a0_4 a0_5 a0_6 a0_7 a0_8 a0_9).bind fun t336 => ((chicaneref16_Text.f k a0_0 a0_1 a0_2 a0_3 a0_4 a0_5 a0_6 a0_7 a0_8 a0_9).bind fun t337 => (some (t336.toList == t337.toList)))) else (some false)) = some r := H
   have A11 := Aside0.mk A110
   clear A110
   by_cases c12 : t335 = true
   ·subst c12
    have H1 : ((order_Text.f k a0_0 a0_1 a0_2 a0_3 a0_4 a0_5 a0_6 a0_7 a0_8 a0_9).bind fun t336 => ((chicaneref16_Text.f k a0_0 a0_1 a0_2 a0_3 a0_4 a0_5 a0_6 a0_7 a0_8 a0_9).bind fun t337 => (some (t336.toList == t337.toList)))) = some r := by rw [if_pos rfl] at H; exact H
    clear H
    have H := H1
    clear H1
    replace H := Option.bind_eq_some_iff.mp H
    obtain ⟨t336, A130, H⟩ := H
    replace H : ((chicaneref16_Text.f k a0_0 a0_1 a0_2 a0_3 a0_4 a0_5 a0_6 a0_7 a0_8 a0_9).bind fun t337 => (some (t336.toList == t337.toList))) = some r := H
    have A13 := Aside0.mk A130
    clear A130
    replace H := Option.bind_eq_some_iff.mp H
    obtain ⟨t337, A140, H⟩ := H
    replace H : (some (t336.toList == t337.toList)) = some r := H
    have A14 := Aside0.mk A140
    clear A140
    obtain rfl := Option.some.inj H
    go_enter Tryz.func4, Tryz.ntmps4
    try go_wp2_with (first | ((with_reducible refine gate_dst (N := 1) rfl ?_); refine box_event ?hg (N := 1) ?hd (cs := #[.int .i64 a0_0, .string a0_1, .string a0_2, .int .i64 a0_3, .string a0_4, .int .i64 a0_5, .bool a0_6, .int .i64 a0_7, .int .i64 a0_8, .int .i64 a0_9]) (t := 31) ?hr ?_; (case hd => rfl); (case hg => rfl); (case hr => first | (go_simp; done) | (go_simp; rfl)); intro gb326 hg w15 hbox hb; have n0_ := Aside0.mk (below_step (by repeat (first | (with_reducible first | exact HB.out | apply below_alloc | apply pw_below_drewN | apply below_drew1) | exact HB.out)) hb); have n1_ := Aside0.mk (hbox); have n2_ := Aside0.mk ((by rw [hg]; exact (below_size (by repeat (first | (with_reducible first | exact HB.out | apply below_alloc | apply pw_below_drewN | apply below_drew1) | exact HB.out))) : w.heap.size ≤ gb326)); have n3_ := Aside0.mk ((by rw [hg]; exact (below_size (by repeat (first | (with_reducible first | exact HB.out | apply below_alloc | apply pw_below_drewN | apply below_drew1) | exact HB.out))) : w.heap.size ≤ gb326)); clear HB; have HB := n0_; have BK326 := n1_; have GW326 := n2_; have GE326 := n3_; clear n0_ n1_ n2_ n3_; clear hb hbox hg; have hcz16_0 : w15.cell? ⟨gb326, 0, none⟩ = some (.int .i64 a0_0) := (blk_cell BK326.out 0).trans rfl; have hcz16_1 : w15.cell? ⟨gb326, 1, none⟩ = some (.string a0_1) := (blk_cell BK326.out 1).trans rfl; have hcz16_2 : w15.cell? ⟨gb326, 2, none⟩ = some (.string a0_2) := (blk_cell BK326.out 2).trans rfl; have hcz16_3 : w15.cell? ⟨gb326, 3, none⟩ = some (.int .i64 a0_3) := (blk_cell BK326.out 3).trans rfl; have hcz16_4 : w15.cell? ⟨gb326, 4, none⟩ = some (.string a0_4) := (blk_cell BK326.out 4).trans rfl; have hcz16_5 : w15.cell? ⟨gb326, 5, none⟩ = some (.int .i64 a0_5) := (blk_cell BK326.out 5).trans rfl; have hcz16_6 : w15.cell? ⟨gb326, 6, none⟩ = some (.bool a0_6) := (blk_cell BK326.out 6).trans rfl; have hcz16_7 : w15.cell? ⟨gb326, 7, none⟩ = some (.int .i64 a0_7) := (blk_cell BK326.out 7).trans rfl; have hcz16_8 : w15.cell? ⟨gb326, 8, none⟩ = some (.int .i64 a0_8) := (blk_cell BK326.out 8).trans rfl; have hcz16_9 : w15.cell? ⟨gb326, 9, none⟩ = some (.int .i64 a0_9) := (blk_cell BK326.out 9).trans rfl; have hfz16_0 := blk_frozen BK326.out 0; have hfz16_1 := blk_frozen BK326.out 1; have hfz16_2 := blk_frozen BK326.out 2; have hfz16_3 := blk_frozen BK326.out 3; have hfz16_4 := blk_frozen BK326.out 4; have hfz16_5 := blk_frozen BK326.out 5; have hfz16_6 := blk_frozen BK326.out 6; have hfz16_7 := blk_frozen BK326.out 7; have hfz16_8 := blk_frozen BK326.out 8; have hfz16_9 := blk_frozen BK326.out 9))
    have n0_ := Aside0.mk (blk_drew BK326.out)
    have n1_ := Aside0.mk (below_drew1 HB.out)
    clear BK326
    clear HB
    have BK326 := n0_
    have HB := n1_
    clear n0_ n1_
    refine start_ (n := 16) (S := fun w' => w'.cell? ⟨gb326, 0, none⟩ = some (.int .i64 a0_0) ∧ w'.cell? ⟨gb326, 1, none⟩ = some (.string a0_1) ∧ w'.cell? ⟨gb326, 2, none⟩ = some (.string a0_2) ∧ w'.cell? ⟨gb326, 3, none⟩ = some (.int .i64 a0_3) ∧ w'.cell? ⟨gb326, 4, none⟩ = some (.string a0_4) ∧ w'.cell? ⟨gb326, 5, none⟩ = some (.int .i64 a0_5) ∧ w'.cell? ⟨gb326, 6, none⟩ = some (.bool a0_6) ∧ w'.cell? ⟨gb326, 7, none⟩ = some (.int .i64 a0_7) ∧ w'.cell? ⟨gb326, 8, none⟩ = some (.int .i64 a0_8) ∧ w'.cell? ⟨gb326, 9, none⟩ = some (.int .i64 a0_9)) (ds := []) #[false, false, false, false, false, false, false, false, false, false, false, false, false, false, false, false] (by kernel_rfl) rfl rfl ⟨(blk_cell BK326.out 0).trans rfl, (blk_cell BK326.out 1).trans rfl, (blk_cell BK326.out 2).trans rfl, (blk_cell BK326.out 3).trans rfl, (blk_cell BK326.out 4).trans rfl, (blk_cell BK326.out 5).trans rfl, (blk_cell BK326.out 6).trans rfl, (blk_cell BK326.out 7).trans rfl, (blk_cell BK326.out 8).trans rfl, (blk_cell BK326.out 9).trans rfl⟩ (fun hHeld => ?_); refine with_tabW chicanelaw16_OrderWrites.tab3 chicanelaw16_OrderWrites.bits3 (fun HT_ HW_ => ?_)
    generalize w15.drew = w17 at BK326 HB hHeld ⊢
    refine one_ (i := 0) (N := some 17) #[true, false, false, false, false, false, false, false, false, false, false, false, false, false, false, false] rfl rfl (one_of HT_.out (by kernel_rfl)) (by decide) (fun K hK => ?_)
    refine goes_ Tryz.func8 (by kernel_rfl) rfl #[] (by rfl) rfl rfl (by (try simp only [List.map_toArray, List.map_cons, List.map_nil]); first | done | rfl | (simp only [List.length_drop, List.length_take]; rfl)) ?_
    with_reducible refine (chicanelaw16_alive.calls k  true _ (⟨Ext.tab_below hT.out (by repeat (first | (with_reducible first | exact HB.out | apply below_alloc | apply pw_below_drewN | apply below_drew1 | refine below_set ?_ GE326.out) | exact HB.out))⟩) A7.out).mono ?_
    rintro e w18 ⟨rfl, hb⟩
    refine ⟨_, rfl, ?_⟩
    have n0_ := Aside0.mk (blk_below (g := gb326) (o := .cells #[.int .i64 a0_0, .string a0_1, .string a0_2, .int .i64 a0_3, .string a0_4, .int .i64 a0_5, .bool a0_6, .int .i64 a0_7, .int .i64 a0_8, .int .i64 a0_9] 31 (0, 0)) (by (with_reducible repeat (first | refine blk_drewN ?_ _ | refine blk_drew ?_ | refine blk_alloc ?_ _)); exact BK326.out) hb)
    have n1_ := Aside0.mk (below_step (by repeat (first | (with_reducible first | exact HB.out | apply below_alloc | apply pw_below_drewN | apply below_drew1 | refine below_set ?_ GE326.out) | exact HB.out)) hb)
    clear BK326
    clear HB
    have BK326 := n0_
    have HB := n1_
    clear n0_ n1_
    (try clear hb)
    (try clear hb2)
    (try clear hk)
    (try clear hi)
    refine hK.out _ _ ⟨(blk_cell BK326.out 0).trans rfl, (blk_cell BK326.out 1).trans rfl, (blk_cell BK326.out 2).trans rfl, (blk_cell BK326.out 3).trans rfl, (blk_cell BK326.out 4).trans rfl, (blk_cell BK326.out 5).trans rfl, (blk_cell BK326.out 6).trans rfl, (blk_cell BK326.out 7).trans rfl, (blk_cell BK326.out 8).trans rfl, (blk_cell BK326.out 9).trans rfl⟩ (fun hHeld => ?_)
    clear hK K
    refine norm_ (a' := ?_) ?_ ?_
    rotate_left
    ·show Act.put _ (some 17) _ = _
     simp only [Act.put, List.setIfInBounds_toArray, List.set_cons_zero, List.set_cons_succ, i64_w, i32_w]
     rfl
    refine pure_ (i := 1) (N := some 18) (v := ?_) (a' := ?_) #[true, true, false, false, false, false, false, false, false, false, false, false, false, false, false, false] rfl rfl (any_of HT_.out (by kernel_rfl)) (fun _ _ _ h => h) (Or.inl ⟨by rfl, ?_⟩) ?_ ?_
    rotate_left
    ·intro w'
     go_simp
     with_reducible rfl
    rotate_left
    ·simp only [Act.put, List.setIfInBounds_toArray, List.set_cons_zero, List.set_cons_succ, i64_w, i32_w]
     rfl
    refine take_ (i := 2) (N := some 19) (v := ?_) (a' := ?_) #[true, true, true, false, false, false, false, false, false, false, false, false, false, false, false, false] rfl rfl (take_ofW HT_.out HW_.out (by kernel_rfl)) (fun _ _ _ h => h) (Or.inl ⟨by rfl, ?_⟩) hHeld ?_ ?_
    rotate_left
    ·rintro w' ⟨s0, s1, s2, s3, s4, s5, s6, s7, s8, s9⟩
     go_simp
     with_reducible rfl
    rotate_left
    ·simp only [Act.put, List.setIfInBounds_toArray, List.set_cons_zero, List.set_cons_succ, i64_w, i32_w]
     rfl
    refine take_ (i := 4) (N := some 21) (v := ?_) (a' := ?_) #[true, true, true, false, true, false, false, false, false, false, false, false, false, false, false, false] rfl rfl (take_ofW HT_.out HW_.out (by kernel_rfl)) (fun _ _ _ h => h) (Or.inl ⟨by rfl, ?_⟩) hHeld ?_ ?_
    rotate_left
    ·rintro w' ⟨s0, s1, s2, s3, s4, s5, s6, s7, s8, s9⟩
     go_simp
     with_reducible rfl
    rotate_left
    ·simp only [Act.put, List.setIfInBounds_toArray, List.set_cons_zero, List.set_cons_succ, i64_w, i32_w]
     rfl
    refine one_ (i := 3) (N := some 20) #[true, true, true, true, true, false, false, false, false, false, false, false, false, false, false, false] rfl rfl (one_of HT_.out (by kernel_rfl)) (by decide) (fun K hK => ?_)
    refine goes_ Tryz.func12 (by kernel_rfl) rfl #[.agg #[.int .i64 a0_0, .string a0_1, .string a0_2, .int .i64 a0_3, .string a0_4, .int .i64 a0_5, .bool a0_6, .int .i64 a0_7, .int .i64 a0_8, .int .i64 a0_9]] (by rfl) rfl rfl (by (try simp only [List.map_toArray, List.map_cons, List.map_nil]); first | done | rfl | (simp only [List.length_drop, List.length_take]; rfl)) ?_
    with_reducible refine (order_Words.calls k a0_0 a0_1 a0_2 a0_3 a0_4 a0_5 a0_6 a0_7 a0_8 a0_9 t329 _ (⟨Ext.tab_below hT.out (by repeat (first | (with_reducible first | exact HB.out | apply below_alloc | apply pw_below_drewN | apply below_drew1 | refine below_set ?_ GE326.out) | exact HB.out))⟩) A9.out).mono ?_
    rintro e w19 ⟨v330, rfl, ho0, hb⟩
    refine ⟨_, rfl, ?_⟩
    have n0_ := Aside0.mk (Kd.R_lower ho0 (below_size (by repeat (first | (with_reducible first | exact HB.out | apply below_alloc | apply pw_below_drewN | apply below_drew1 | refine below_set ?_ GE326.out) | exact HB.out))))
    have n1_ := Aside0.mk (blk_below (g := gb326) (o := .cells #[.int .i64 a0_0, .string a0_1, .string a0_2, .int .i64 a0_3, .string a0_4, .int .i64 a0_5, .bool a0_6, .int .i64 a0_7, .int .i64 a0_8, .int .i64 a0_9] 31 (0, 0)) (by (with_reducible repeat (first | refine blk_drewN ?_ _ | refine blk_drew ?_ | refine blk_alloc ?_ _)); exact BK326.out) hb)
    have n2_ := Aside0.mk (below_step (by repeat (first | (with_reducible first | exact HB.out | apply below_alloc | apply pw_below_drewN | apply below_drew1 | refine below_set ?_ GE326.out) | exact HB.out)) hb)
    clear BK326
    clear HB
    have HO331 := n0_
    have BK326 := n1_
    have HB := n2_
    clear n0_ n1_ n2_
    (try clear hb)
    (try clear hb2)
    (try clear hk)
    (try clear hi)
    (try clear ho0)
    refine hK.out _ _ ⟨(blk_cell BK326.out 0).trans rfl, (blk_cell BK326.out 1).trans rfl, (blk_cell BK326.out 2).trans rfl, (blk_cell BK326.out 3).trans rfl, (blk_cell BK326.out 4).trans rfl, (blk_cell BK326.out 5).trans rfl, (blk_cell BK326.out 6).trans rfl, (blk_cell BK326.out 7).trans rfl, (blk_cell BK326.out 8).trans rfl, (blk_cell BK326.out 9).trans rfl⟩ (fun hHeld => ?_)
    clear hK K
    refine norm_ (a' := ?_) ?_ ?_
    rotate_left
    ·show Act.put _ (some 20) _ = _
     simp only [Act.put, List.setIfInBounds_toArray, List.set_cons_zero, List.set_cons_succ, i64_w, i32_w]
     rfl
    refine one_ (i := 5) (N := some 22) #[true, true, true, true, true, true, false, false, false, false, false, false, false, false, false, false] rfl rfl (one_of HT_.out (by kernel_rfl)) (by decide) (fun K hK => ?_)
    refine goes_ Tryz.func13 (by kernel_rfl) rfl #[.agg #[.int .i64 a0_0, .string a0_1, .string a0_2, .int .i64 a0_3, .string a0_4, .int .i64 a0_5, .bool a0_6, .int .i64 a0_7, .int .i64 a0_8, .int .i64 a0_9]] (by rfl) rfl rfl (by (try simp only [List.map_toArray, List.map_cons, List.map_nil]); first | done | rfl | (simp only [List.length_drop, List.length_take]; rfl)) ?_
    with_reducible refine (chicaneref16_Words.calls k a0_0 a0_1 a0_2 a0_3 a0_4 a0_5 a0_6 a0_7 a0_8 a0_9 t332 _ A10.out).mono ?_
    rintro e w20 ⟨v333, rfl, ho0, hb⟩
    refine ⟨_, rfl, ?_⟩
    have n0_ := Aside0.mk (Kd.R_elder' (by (with_reducible repeat (first | apply Kd.R_alloc | apply Kd.R_drewN | apply Kd.R_drew)); exact HO331.out) (Kd.R_base ho0) hb)
    have n1_ := Aside0.mk (Kd.R_lower (Kd.R_new' ho0 (Kd.R_lt (by (with_reducible repeat (first | apply Kd.R_alloc | apply Kd.R_drewN | apply Kd.R_drew)); exact HO331.out))) (below_size (by repeat (first | (with_reducible first | exact HB.out | apply below_alloc | apply pw_below_drewN | apply below_drew1 | refine below_set ?_ GE326.out) | exact HB.out))))
    have n2_ := Aside0.mk (blk_below (g := gb326) (o := .cells #[.int .i64 a0_0, .string a0_1, .string a0_2, .int .i64 a0_3, .string a0_4, .int .i64 a0_5, .bool a0_6, .int .i64 a0_7, .int .i64 a0_8, .int .i64 a0_9] 31 (0, 0)) (by (with_reducible repeat (first | refine blk_drewN ?_ _ | refine blk_drew ?_ | refine blk_alloc ?_ _)); exact BK326.out) hb)
    have n3_ := Aside0.mk (below_step (by repeat (first | (with_reducible first | exact HB.out | apply below_alloc | apply pw_below_drewN | apply below_drew1 | refine below_set ?_ GE326.out) | exact HB.out)) hb)
    clear HO331
    clear BK326
    clear HB
    have HO331 := n0_
    have HO334 := n1_
    have BK326 := n2_
    have HB := n3_
    clear n0_ n1_ n2_ n3_
    (try clear hb)
    (try clear hb2)
    (try clear hk)
    (try clear hi)
    (try clear ho0)
    obtain ⟨Ao21, co21, eo21⟩ := Kd.R_slice HO331.out
    (first | subst eo21 | (injection eo21 with f1_ f2_ f3_; have f4_ := f1_.symm; have f5_ := f3_.symm; clear f1_ f2_ f3_; subst f4_; subst f5_))
    obtain ⟨Ao22, co22, eo22⟩ := Kd.R_slice HO334.out
    (first | subst eo22 | (injection eo22 with f1_ f2_ f3_; have f4_ := f1_.symm; have f5_ := f3_.symm; clear f1_ f2_ f3_; subst f4_; subst f5_))
    refine hK.out _ _ ⟨(blk_cell BK326.out 0).trans rfl, (blk_cell BK326.out 1).trans rfl, (blk_cell BK326.out 2).trans rfl, (blk_cell BK326.out 3).trans rfl, (blk_cell BK326.out 4).trans rfl, (blk_cell BK326.out 5).trans rfl, (blk_cell BK326.out 6).trans rfl, (blk_cell BK326.out 7).trans rfl, (blk_cell BK326.out 8).trans rfl, (blk_cell BK326.out 9).trans rfl⟩ (fun hHeld => ?_)
    clear hK K
    refine norm_ (a' := ?_) ?_ ?_
    rotate_left
    ·show Act.put _ (some 22) _ = _
     simp only [Act.put, List.setIfInBounds_toArray, List.set_cons_zero, List.set_cons_succ, i64_w, i32_w]
     rfl
    refine one_ (i := 6) (N := some 23) #[true, true, true, true, true, true, true, false, false, false, false, false, false, false, false, false] rfl rfl (one_of HT_.out (by kernel_rfl)) (by decide) (fun K hK => ?_)
    refine goes_ Tryz.func11 (by kernel_rfl) rfl #[.slice Ao21 t329.length co21, .slice Ao22 t332.length co22] (by rfl) rfl rfl (by (try simp only [List.map_toArray, List.map_cons, List.map_nil]); first | done | rfl | (simp only [List.length_drop, List.length_take]; rfl)) ?_
    with_reducible refine (chicaneref15_Same.calls k _ _ t329 _ _ t332 true _ ?side1 ?side2 ?side3 ?side4 A11.out).mono ?_
    (case side1 => repeat (first | exact (Kd.R_reads' HO331.out).2.2 | (with_reducible refine Kd.C_alloc ?_ _) | (with_reducible refine Kd.C_drewN ?_ _) | (with_reducible refine Kd.C_drew ?_)))
    (case side2 => exact (Kd.R_reads' HO331.out).2.1)
    (case side3 => repeat (first | exact (Kd.R_reads' HO334.out).2.2 | (with_reducible refine Kd.C_alloc ?_ _) | (with_reducible refine Kd.C_drewN ?_ _) | (with_reducible refine Kd.C_drew ?_)))
    (case side4 => exact (Kd.R_reads' HO334.out).2.1)
    rintro e w' ⟨rfl, ⟨nd, rfl⟩⟩
    refine ⟨_, rfl, ?_⟩
    refine hK.out _ _ ⟨(blk_cell BK326.out 0).trans rfl, (blk_cell BK326.out 1).trans rfl, (blk_cell BK326.out 2).trans rfl, (blk_cell BK326.out 3).trans rfl, (blk_cell BK326.out 4).trans rfl, (blk_cell BK326.out 5).trans rfl, (blk_cell BK326.out 6).trans rfl, (blk_cell BK326.out 7).trans rfl, (blk_cell BK326.out 8).trans rfl, (blk_cell BK326.out 9).trans rfl⟩ (fun hHeld => ?_)
    clear hK K
    refine norm_ (a' := ?_) ?_ ?_
    rotate_left
    ·show Act.put _ (some 23) _ = _
     simp only [Act.put, List.setIfInBounds_toArray, List.set_cons_zero, List.set_cons_succ, i64_w, i32_w]
     rfl
    refine pure_ (i := 7) (N := some 24) (v := ?_) (a' := ?_) #[true, true, true, true, true, true, true, true, false, false, false, false, false, false, false, false] rfl rfl (any_of HT_.out (by kernel_rfl)) (fun _ _ _ h => h) (Or.inl ⟨by rfl, ?_⟩) ?_ ?_
    rotate_left
    ·intro w'
     go_simp
     with_reducible rfl
    rotate_left
    ·simp only [Act.put, List.setIfInBounds_toArray, List.set_cons_zero, List.set_cons_succ, i64_w, i32_w]
     rfl
    refine pure_ (i := 8) (N := some 25) (v := ?_) (a' := ?_) #[true, true, true, true, true, true, true, true, true, false, false, false, false, false, false, false] rfl rfl (any_of HT_.out (by kernel_rfl)) (fun _ _ _ h => h) (Or.inl ⟨by rfl, ?_⟩) ?_ ?_
    rotate_left
    ·intro w'
     go_simp
     with_reducible rfl
    rotate_left
    ·simp only [Act.put, List.setIfInBounds_toArray, List.set_cons_zero, List.set_cons_succ, i64_w, i32_w]
     rfl
    refine take_ (i := 9) (N := some 26) (v := ?_) (a' := ?_) #[true, true, true, true, true, true, true, true, true, true, false, false, false, false, false, false] rfl rfl (take_ofW HT_.out HW_.out (by kernel_rfl)) (fun _ _ _ h => h) (Or.inl ⟨by rfl, ?_⟩) hHeld ?_ ?_
    rotate_left
    ·rintro w' ⟨s0, s1, s2, s3, s4, s5, s6, s7, s8, s9⟩
     go_simp
     with_reducible rfl
    rotate_left
    ·simp only [Act.put, List.setIfInBounds_toArray, List.set_cons_zero, List.set_cons_succ, i64_w, i32_w]
     rfl
    refine take_ (i := 11) (N := some 28) (v := ?_) (a' := ?_) #[true, true, true, true, true, true, true, true, true, true, false, true, false, false, false, false] rfl rfl (take_ofW HT_.out HW_.out (by kernel_rfl)) (fun _ _ _ h => h) (Or.inl ⟨by rfl, ?_⟩) hHeld ?_ ?_
    rotate_left
    ·rintro w' ⟨s0, s1, s2, s3, s4, s5, s6, s7, s8, s9⟩
     go_simp
     with_reducible rfl
    rotate_left
    ·simp only [Act.put, List.setIfInBounds_toArray, List.set_cons_zero, List.set_cons_succ, i64_w, i32_w]
     rfl
    refine one_ (i := 10) (N := some 27) #[true, true, true, true, true, true, true, true, true, true, true, true, false, false, false, false] rfl rfl (one_of HT_.out (by kernel_rfl)) (by decide) (fun K hK => ?_)
    refine goes_ Tryz.func14 (by kernel_rfl) rfl #[.agg #[.int .i64 a0_0, .string a0_1, .string a0_2, .int .i64 a0_3, .string a0_4, .int .i64 a0_5, .bool a0_6, .int .i64 a0_7, .int .i64 a0_8, .int .i64 a0_9]] (by rfl) rfl rfl (by (try simp only [List.map_toArray, List.map_cons, List.map_nil]); first | done | rfl | (simp only [List.length_drop, List.length_take]; rfl)) ?_
    with_reducible refine (order_Text.calls k a0_0 a0_1 a0_2 a0_3 a0_4 a0_5 a0_6 a0_7 a0_8 a0_9 t336 _ (⟨Ext.tab_below hT.out (by repeat (first | (with_reducible first | exact HB.out | apply below_alloc | apply pw_below_drewN | apply below_drew1 | refine below_set ?_ GE326.out) | exact HB.out))⟩) A13.out).mono ?_
    rintro e w23 ⟨rfl, hb⟩
    refine ⟨_, rfl, ?_⟩
    have n0_ := Aside0.mk (Kd.R_below (by (with_reducible repeat (first | apply Kd.R_alloc | apply Kd.R_drewN | apply Kd.R_drew)); exact HO331.out) hb)
    have n1_ := Aside0.mk (Kd.R_below (by (with_reducible repeat (first | apply Kd.R_alloc | apply Kd.R_drewN | apply Kd.R_drew)); exact HO334.out) hb)
    have n2_ := Aside0.mk (blk_below (g := gb326) (o := .cells #[.int .i64 a0_0, .string a0_1, .string a0_2, .int .i64 a0_3, .string a0_4, .int .i64 a0_5, .bool a0_6, .int .i64 a0_7, .int .i64 a0_8, .int .i64 a0_9] 31 (0, 0)) (by (with_reducible repeat (first | refine blk_drewN ?_ _ | refine blk_drew ?_ | refine blk_alloc ?_ _)); exact BK326.out) hb)
    have n3_ := Aside0.mk (below_step (by repeat (first | (with_reducible first | exact HB.out | apply below_alloc | apply pw_below_drewN | apply below_drew1 | refine below_set ?_ GE326.out) | exact HB.out)) hb)
    clear HO331
    clear HO334
    clear BK326
    clear HB
    have HO331 := n0_
    have HO334 := n1_
    have BK326 := n2_
    have HB := n3_
    clear n0_ n1_ n2_ n3_
    (try clear hb)
    (try clear hb2)
    (try clear hk)
    (try clear hi)
    refine hK.out _ _ ⟨(blk_cell BK326.out 0).trans rfl, (blk_cell BK326.out 1).trans rfl, (blk_cell BK326.out 2).trans rfl, (blk_cell BK326.out 3).trans rfl, (blk_cell BK326.out 4).trans rfl, (blk_cell BK326.out 5).trans rfl, (blk_cell BK326.out 6).trans rfl, (blk_cell BK326.out 7).trans rfl, (blk_cell BK326.out 8).trans rfl, (blk_cell BK326.out 9).trans rfl⟩ (fun hHeld => ?_)
    clear hK K
    refine norm_ (a' := ?_) ?_ ?_
    rotate_left
    ·show Act.put _ (some 27) _ = _
     simp only [Act.put, List.setIfInBounds_toArray, List.set_cons_zero, List.set_cons_succ, i64_w, i32_w]
     rfl
    refine one_ (i := 12) (N := some 29) #[true, true, true, true, true, true, true, true, true, true, true, true, true, false, false, false] rfl rfl (one_of HT_.out (by kernel_rfl)) (by decide) (fun K hK => ?_)
    refine goes_ Tryz.func15 (by kernel_rfl) rfl #[.agg #[.int .i64 a0_0, .string a0_1, .string a0_2, .int .i64 a0_3, .string a0_4, .int .i64 a0_5, .bool a0_6, .int .i64 a0_7, .int .i64 a0_8, .int .i64 a0_9]] (by rfl) rfl rfl (by (try simp only [List.map_toArray, List.map_cons, List.map_nil]); first | done | rfl | (simp only [List.length_drop, List.length_take]; rfl)) ?_
    with_reducible refine (chicaneref16_Text.calls k a0_0 a0_1 a0_2 a0_3 a0_4 a0_5 a0_6 a0_7 a0_8 a0_9 t337 _ A14.out).mono ?_
    rintro e w24 ⟨rfl, hb⟩
    refine ⟨_, rfl, ?_⟩
    have n0_ := Aside0.mk (Kd.R_below (by (with_reducible repeat (first | apply Kd.R_alloc | apply Kd.R_drewN | apply Kd.R_drew)); exact HO331.out) hb)
    have n1_ := Aside0.mk (Kd.R_below (by (with_reducible repeat (first | apply Kd.R_alloc | apply Kd.R_drewN | apply Kd.R_drew)); exact HO334.out) hb)
    have n2_ := Aside0.mk (blk_below (g := gb326) (o := .cells #[.int .i64 a0_0, .string a0_1, .string a0_2, .int .i64 a0_3, .string a0_4, .int .i64 a0_5, .bool a0_6, .int .i64 a0_7, .int .i64 a0_8, .int .i64 a0_9] 31 (0, 0)) (by (with_reducible repeat (first | refine blk_drewN ?_ _ | refine blk_drew ?_ | refine blk_alloc ?_ _)); exact BK326.out) hb)
    have n3_ := Aside0.mk (below_step (by repeat (first | (with_reducible first | exact HB.out | apply below_alloc | apply pw_below_drewN | apply below_drew1 | refine below_set ?_ GE326.out) | exact HB.out)) hb)
    clear HO331
    clear HO334
    clear BK326
    clear HB
    have HO331 := n0_
    have HO334 := n1_
    have BK326 := n2_
    have HB := n3_
    clear n0_ n1_ n2_ n3_
    (try clear hb)
    (try clear hb2)
    (try clear hk)
    (try clear hi)
    refine hK.out _ _ ⟨(blk_cell BK326.out 0).trans rfl, (blk_cell BK326.out 1).trans rfl, (blk_cell BK326.out 2).trans rfl, (blk_cell BK326.out 3).trans rfl, (blk_cell BK326.out 4).trans rfl, (blk_cell BK326.out 5).trans rfl, (blk_cell BK326.out 6).trans rfl, (blk_cell BK326.out 7).trans rfl, (blk_cell BK326.out 8).trans rfl, (blk_cell BK326.out 9).trans rfl⟩ (fun hHeld => ?_)
    clear hK K
    refine norm_ (a' := ?_) ?_ ?_
    rotate_left
    ·show Act.put _ (some 29) _ = _
     simp only [Act.put, List.setIfInBounds_toArray, List.set_cons_zero, List.set_cons_succ, i64_w, i32_w]
     rfl
    refine pure_ (i := 13) (N := some 30) (v := ?_) (a' := ?_) #[true, true, true, true, true, true, true, true, true, true, true, true, true, true, false, false] rfl rfl (any_of HT_.out (by kernel_rfl)) (fun _ _ _ h => h) (Or.inl ⟨by rfl, ?_⟩) ?_ ?_
    rotate_left
    ·intro w'
     go_simp
     with_reducible rfl
    rotate_left
    ·simp only [Act.put, List.setIfInBounds_toArray, List.set_cons_zero, List.set_cons_succ, i64_w, i32_w]
     rfl
    refine pure_ (i := 14) (N := some 31) (v := ?_) (a' := ?_) #[true, true, true, true, true, true, true, true, true, true, true, true, true, true, true, false] rfl rfl (any_of HT_.out (by kernel_rfl)) (fun _ _ _ h => h) (Or.inl ⟨by rfl, ?_⟩) ?_ ?_
    rotate_left
    ·intro w'
     go_simp
     with_reducible rfl
    rotate_left
    ·simp only [Act.put, List.setIfInBounds_toArray, List.set_cons_zero, List.set_cons_succ, i64_w, i32_w]
     rfl
    refine pure_ (i := 15) (N := some 2) (v := ?_) (a' := ?_) #[true, true, true, true, true, true, true, true, true, true, true, true, true, true, true, true] rfl rfl (any_of HT_.out (by kernel_rfl)) (fun _ _ _ h => h) (Or.inl ⟨by rfl, ?_⟩) ?_ ?_
    rotate_left
    ·intro w'
     go_simp
     with_reducible rfl
    rotate_left
    ·simp only [Act.put, List.setIfInBounds_toArray, List.set_cons_zero, List.set_cons_succ, i64_w, i32_w]
     rfl
    refine done_ (done_of HT_.out (by kernel_rfl)) ?_
    try go_wp2
    go_ret
    exact ⟨by first | rfl | (simp [errW_none, errW_some] <;> rfl) | (simp [*, errW_none, errW_some] <;> rfl), by repeat (first | (with_reducible first | exact HB.out | apply below_alloc | apply pw_below_drewN | apply below_drew1 | refine below_set ?_ GE326.out) | exact HB.out)⟩
   ·replace c12 := Bool.eq_false_iff.mpr c12
    subst c12
    have H1 : (some false) = some r := by rw [if_neg (show ¬ (false = true) by decide)] at H; exact H
    clear H
    have H := H1
    clear H1
    exact absurd ((Option.some.inj H).trans hr) Bool.false_ne_true
  ·replace c8 := Bool.eq_false_iff.mpr c8
   subst c8
   have H1 : (some false) = some r := by rw [if_neg (show ¬ (false = true) by decide)] at H; exact H
   clear H
   have H := H1
   clear H1
   exact absurd ((Option.some.inj H).trans hr) Bool.false_ne_true
end Go.Proofs.YtlglbpjccpdloaaGreatDoor.POrdB
namespace Go.Proofs.YtlglbpjccpdloaaGreatDoor.POrdB
open Go.Proofs.YtlglbpjccpdloaaGreatDoor.Ext Go.Proofs.YtlglbpjccpdloaaGreatDoor.ToxZ Go.Proofs.YtlglbpjccpdloaaGreatDoor.PWrdA Go.RowKit Go.Proofs.YtlglbpjccpdloaaGreatDoorW.PrintWords Go.Proofs.YtlglbpjccpdloaaGreatDoorW.PrintLast Go.Proofs.YtlglbpjccpdloaaGreatDoorW.PrintMore
attribute [local go_sem] max2_int min2_int max_two min_two max_three min_three max_four min_four   -- for this text's walks alone
set_option linter.unusedVariables false
set_option linter.unusedSimpArgs false
attribute [local go_sem high] eqA27
def chicanelaw16_OrderBack.j0 : Nat → Bool → Int → ByteArray → ByteArray → Int → ByteArray → Int → Bool → Int → Int → Int → Option (Bool)
 | 0, _, _, _, _, _, _, _, _, _, _, _ => none
 | k + 1, x23, x339000, x339001, x339002, x339003, x339004, x339005, x339006, x339007, x339008, x339009 => if x23 = true then ((chicanelaw16_alive.f k).bind fun t340 => (some t340)) else ((order_Words.f k x339000 x339001 x339002 x339003 x339004 x339005 x339006 x339007 x339008 x339009).bind fun t341 => ((order_FromWords.f t341).bind fun bt344 => (if (t341.length : Int) = 0 then ((chicanelaw16_alive.f k).bind fun t356 => (if t356 = true then (some (bt344.2.2.2.2.2.2.2.2.2.2 == 160)) else (some false))) else ((chicanelaw16_alive.f k).bind fun t357 => (if t357 = true then (if bt344.2.2.2.2.2.2.2.2.2.2 = 0 then (some (bt344.1 == x339000 && (bt344.2.1.toList == x339001.toList && (bt344.2.2.1.toList == x339002.toList && (bt344.2.2.2.1 == x339003 && ((bt344.2.2.2.2.1.toList == x339004.toList && (bt344.2.2.2.2.2.1 == x339005 && (bt344.2.2.2.2.2.2.1 == x339006 && (bt344.2.2.2.2.2.2.2.1 == x339007 && (bt344.2.2.2.2.2.2.2.2.1 == x339008 && (bt344.2.2.2.2.2.2.2.2.2.1 == x339009)))))))))))) else (some false)) else (some false))))))
def chicanelaw16_OrderBack.f (k : Nat) (a0_0 : Int) (a0_1 : ByteArray) (a0_2 : ByteArray) (a0_3 : Int) (a0_4 : ByteArray) (a0_5 : Int) (a0_6 : Bool) (a0_7 : Int) (a0_8 : Int) (a0_9 : Int) : Option (Bool) := if (wrap64 ((wrap64 ((a0_1.size : Int) + (a0_2.size : Int))) + (a0_4.size : Int))) > 1000 then (chicanelaw16_OrderBack.j0 k true a0_0 a0_1 a0_2 a0_3 a0_4 a0_5 a0_6 a0_7 a0_8 a0_9) else ((chicaneref16_Clean.f k a0_0 a0_1 a0_2 a0_3 a0_4 a0_5 a0_6 a0_7 a0_8 a0_9).bind fun t339 => (chicanelaw16_OrderBack.j0 k (!t339) a0_0 a0_1 a0_2 a0_3 a0_4 a0_5 a0_6 a0_7 a0_8 a0_9))
end Go.Proofs.YtlglbpjccpdloaaGreatDoor.POrdB
namespace Go.Proofs.YtlglbpjccpdloaaGreatDoor.POrdB
open Go.Proofs.YtlglbpjccpdloaaGreatDoor.Ext Go.Proofs.YtlglbpjccpdloaaGreatDoor.ToxZ Go.Proofs.YtlglbpjccpdloaaGreatDoor.PWrdA Go.RowKit Go.Proofs.YtlglbpjccpdloaaGreatDoorW.PrintWords Go.Proofs.YtlglbpjccpdloaaGreatDoorW.PrintLast Go.Proofs.YtlglbpjccpdloaaGreatDoorW.PrintMore
attribute [local go_sem] max2_int min2_int max_two min_two max_three min_three max_four min_four   -- for this text's walks alone
set_option linter.unusedVariables false
set_option linter.unusedSimpArgs false
attribute [local go_sem high] eqA27
def chicanelaw16_OrderOnce.f (k : Nat) (a0 : ByteArray) : Option (Bool) := if (a0.size : Int) > 1000 then ((chicanelaw16_alive.f k).bind fun t358 => (some t358)) else ((order_Parse.f a0).bind fun bt359 => (if bt359.2.2.2.2.2.2.2.2.2.2 = 0 then ((order_Text.f k bt359.1 bt359.2.1 bt359.2.2.1 bt359.2.2.2.1 bt359.2.2.2.2.1 bt359.2.2.2.2.2.1 bt359.2.2.2.2.2.2.1 bt359.2.2.2.2.2.2.2.1 bt359.2.2.2.2.2.2.2.2.1 bt359.2.2.2.2.2.2.2.2.2.1).bind fun t372 => ((order_Parse.f t372).bind fun bt373 => ((chicanelaw16_alive.f k).bind fun t385 => (if t385 = true then ((chicaneref16_Clean.f k bt359.1 bt359.2.1 bt359.2.2.1 bt359.2.2.2.1 bt359.2.2.2.2.1 bt359.2.2.2.2.2.1 bt359.2.2.2.2.2.2.1 bt359.2.2.2.2.2.2.2.1 bt359.2.2.2.2.2.2.2.2.1 bt359.2.2.2.2.2.2.2.2.2.1).bind fun t386 => (if t386 = true then (if t372.toList = ([] : List UInt8) then (some true) else (if bt373.2.2.2.2.2.2.2.2.2.2 = 0 then (some (bt373.1 == bt359.1 && (bt373.2.1.toList == bt359.2.1.toList && (bt373.2.2.1.toList == bt359.2.2.1.toList && (bt373.2.2.2.1 == bt359.2.2.2.1 && ((bt373.2.2.2.2.1.toList == bt359.2.2.2.2.1.toList && (bt373.2.2.2.2.2.1 == bt359.2.2.2.2.2.1 && (bt373.2.2.2.2.2.2.1 == bt359.2.2.2.2.2.2.1 && (bt373.2.2.2.2.2.2.2.1 == bt359.2.2.2.2.2.2.2.1 && (bt373.2.2.2.2.2.2.2.2.1 == bt359.2.2.2.2.2.2.2.2.1 && (bt373.2.2.2.2.2.2.2.2.2.1 == bt359.2.2.2.2.2.2.2.2.2.1)))))))))))) else (some false))) else (some false))) else (some false))))) else ((chicanelaw16_alive.f k).bind fun t371 => (if t371 = true then (some (bt359.1 == 0 && (bt359.2.1.toList == ([] : List UInt8) && (bt359.2.2.1.toList == ([] : List UInt8) && (bt359.2.2.2.1 == 0 && ((bt359.2.2.2.2.1.toList == ([] : List UInt8) && (bt359.2.2.2.2.2.1 == 0 && (!bt359.2.2.2.2.2.2.1 && (bt359.2.2.2.2.2.2.2.1 == 0 && (bt359.2.2.2.2.2.2.2.2.1 == 0 && (bt359.2.2.2.2.2.2.2.2.2.1 == 0)))))))))))) else (some false)))))
end Go.Proofs.YtlglbpjccpdloaaGreatDoor.POrdB
namespace Go.Proofs.YtlglbpjccpdloaaGreatDoor.POrdB
open Go.Proofs.YtlglbpjccpdloaaGreatDoor.Ext Go.Proofs.YtlglbpjccpdloaaGreatDoor.ToxZ Go.Proofs.YtlglbpjccpdloaaGreatDoor.PWrdA Go.RowKit Go.Proofs.YtlglbpjccpdloaaGreatDoorW.PrintWords Go.Proofs.YtlglbpjccpdloaaGreatDoorW.PrintLast Go.Proofs.YtlglbpjccpdloaaGreatDoorW.PrintMore
attribute [local go_sem] max2_int min2_int max_two min_two max_three min_three max_four min_four   -- for this text's walks alone
set_option linter.unusedVariables false
set_option linter.unusedSimpArgs false
attribute [local go_sem high] eqA27
def chicanelaw16_OrderVerbs.l0 : Nat → Int → List ByteArray → Int → Int → Option (Bool)
 | 0, _, _, _, _ => none
 | k + 1, x0, x13, x14, x15 => if x15 < x14 then (if 0 ≤ x15 then (if x15 < (x13.length : Int) then ((chicaneref15_Split.f k (rdOf ByteArray.empty x13 x15)).bind fun bt393 => (if bt393.2.2 = 0 then ((chicaneref16_Verb.f (wrap64 (x15 + 1))).bind fun t398 => ((chicaneref15_Same.f k bt393.1 t398).bind fun t401 => (if t401 = true then (chicanelaw16_OrderVerbs.l0 k x0 x13 x14 (wrap64 (x15 + 1))) else (some false)))) else (some false))) else (none)) else (none)) else ((chicanelaw16_alive.f k).bind fun t390 => (if t390 = true then ((order_Changes.f x0).bind fun t391 => (if x0 ≥ 1 then (if x0 ≤ 7 then (some (t391 == true)) else (some (t391 == (x0 == 10)))) else (some (t391 == (x0 == 10))))) else (some false)))
def chicanelaw16_OrderVerbs.f (k : Nat) (a0 : Int) : Option (Bool) := (order_Verbs.f).bind fun t387 => (if (t387.length : Int) = 10 then (chicanelaw16_OrderVerbs.l0 k a0 t387 (t387.length : Int) 0) else (some false))
end Go.Proofs.YtlglbpjccpdloaaGreatDoor.POrdB
set_option linter.unusedVariables false
set_option linter.unusedSimpArgs false
namespace Go.Proofs.YtlglbpjccpdloaaGreatDoor.Ext
open Go.RowKit Go.Proofs.YtlglbpjccpdloaaGreatDoorW.PrintWords Go.Proofs.YtlglbpjccpdloaaGreatDoorW.PrintLast Go.Proofs.YtlglbpjccpdloaaGreatDoor.PWrdA Go.Proofs.YtlglbpjccpdloaaGreatDoor.ToxZ Go.Proofs.YtlglbpjccpdloaaGreatDoor.Tox Go.Proofs.YtlglbpjccpdloaaGreatDoor.ToxPlain Go.Proofs.YtlglbpjccpdloaaGreatDoor.POrdB
theorem alive16 (k : Nat) (hk : 100 ≤ k) : chicanelaw16_alive.f k = some true := at_rounds chicanelaw16_alive.mono hk chicanelaw16_alive.at100
theorem sum3 (a b c : Nat) (ha : a ≤ 140737488351232) (hb : b ≤ 140737488351232) (hc : c ≤ 140737488351232) : wrap64 (wrap64 ((a : Int) + (b : Int)) + (c : Int)) = (a : Int) + (b : Int) + (c : Int) := by unfold wrap64; omega
theorem vb_short (n : Int) : ∀ x ∈ vb n, x.size ≤ 10 := by
  by_cases h : 1 ≤ n ∧ n ≤ 10
  · have h' : n = 1 ∨ n = 2 ∨ n = 3 ∨ n = 4 ∨ n = 5 ∨ n = 6 ∨ n = 7 ∨ n = 8 ∨ n = 9 ∨ n = 10 := by omega
    rcases h' with rfl | rfl | rfl | rfl | rfl | rfl | rfl | rfl | rfl | rfl <;> decide +kernel
  · rw [vb, if_neg h]; intro x hx; cases hx
theorem wordsOf_short (v : Int) (p m : ByteArray) (n : Int) (t0 : ByteArray) (t1 : Int) (t2 : Bool) (t3 t4 t5 : Int) (S : Nat) (hS : 16 ≤ S) (hp : p.size ≤ S) (hm : m.size ≤ S) : ∀ x ∈ wordsOf v p m n t0 t1 t2 t3 t4 t5, x.size ≤ S := by
  by_cases hv : v < 1 ∨ 10 < v
  · rw [wordsOf, if_pos hv]; intro x hx; cases hx
  by_cases hc : (v = 5 ∨ v = 7) ∧ checkOf t0 t1 t2 t3 t4 t5 ≠ 0
  · rw [wordsOf, if_neg hv, if_pos hc]; intro x hx; cases hx
  rw [wordsOf_good v p m n t0 t1 t2 t3 t4 t5 (by omega) hc]
  intro x hx
  rw [List.mem_append, List.mem_append] at hx
  rcases hx with hx | hx | hx
  · have := vb_short v x hx; omega
  · split at hx
    · cases hx
    · rw [List.mem_singleton] at hx; subst hx; exact hp
  · split at hx
    · rw [List.mem_singleton] at hx; subst hx; have := tickText_size n; omega
    · split at hx
      · rw [List.mem_singleton] at hx; subst hx; exact hm
      · split at hx
        · rename_i h5
          have h0 : checkOf t0 t1 t2 t3 t4 t5 = 0 := Decidable.byContradiction fun hh => hc ⟨h5, hh⟩
          have := signs_sizes t0 t1 t2 t3 t4 t5 h0 x hx
          omega
        · cases hx
theorem wordsOf_len (v : Int) (p m : ByteArray) (n : Int) (t0 : ByteArray) (t1 : Int) (t2 : Bool) (t3 t4 t5 : Int) : (wordsOf v p m n t0 t1 t2 t3 t4 t5).length ≤ 9 := by
  by_cases hv : v < 1 ∨ 10 < v
  · rw [wordsOf, if_pos hv]; decide
  by_cases hc : (v = 5 ∨ v = 7) ∧ checkOf t0 t1 t2 t3 t4 t5 ≠ 0
  · rw [wordsOf, if_neg hv, if_pos hc]; decide
  rw [wordsOf_good v p m n t0 t1 t2 t3 t4 t5 (by omega) hc, List.length_append, List.length_append]
  have h1 := vb_len v
  have h2 : (if v = 8 ∨ v = 10 then ([] : List ByteArray) else [p]).length ≤ 1 := by split <;> simp
  have h3 : (if v = 1 then [tickText n] else if v = 6 then [m] else if v = 5 ∨ v = 7 then signs t0 t1 t2 t3 t4 t5 else []).length ≤ 6 := by
    have := signs_len t0 t1 t2 t3 t4 t5
    repeat' split
    all_goals first | decide | (simp; done) | (split at this <;> omega)
  omega
theorem joinf (l : List ByteArray) (h : ∀ x ∈ l, x.size ≤ 2000) : words_Join.f l = some (ba (WP.join (l.map bl))) := by
  unfold words_Join.f
  rw [if_pos]
  right
  rw [List.all_eq_true]
  exact fun x hx => decide_eq_true (h x hx)
theorem writes_pure (v : Int) (p m : ByteArray) (n : Int) (t0 : ByteArray) (t1 : Int) (t2 : Bool) (t3 t4 t5 : Int) (hp : p.size ≤ 140737488351232) (hm : m.size ≤ 140737488351232) (ht : t0.size ≤ 140737488351232) : ∃ k, chicanelaw16_OrderWrites.f k v p m n t0 t1 t2 t3 t4 t5 = some true := by
  refine ⟨200000, ?_⟩
  unfold chicanelaw16_OrderWrites.f
  rw [sum3 _ _ _ hp hm ht, alive16 200000 (by decide)]
  by_cases hb : (p.size : Int) + (m.size : Int) + (t0.size : Int) > 1000
  · rw [if_pos hb]; rfl
  · have hsh := wordsOf_short v p m n t0 t1 t2 t3 t4 t5 1000 (by decide) (by omega) (by omega)
    have hln := wordsOf_len v p m n t0 t1 t2 t3 t4 t5
    have hjn := joinf _ (fun x hx => Nat.le_trans (hsh x hx) (by decide))
    have hrj := rjoin_is (wordsOf v p m n t0 t1 t2 t3 t4 t5) (.inr fun x hx => Nat.le_trans (hsh x hx) (by decide)) 200000 (by decide)
    rw [if_neg hb, Option.bind_some, if_pos rfl, words_is, Option.bind_some, rwords_is _ _ _ _ _ _ _ _ _ _ (by omega), Option.bind_some, sames_is _ _ (by omega) 200000 (by omega), Option.bind_some, if_pos (decide_eq_true rfl)]
    unfold order_Text.f chicaneref16_Text.f
    rw [words_is, Option.bind_some, hjn, Option.bind_some, Option.bind_some, rwords_is _ _ _ _ _ _ _ _ _ _ (by omega), Option.bind_some, hrj, Option.bind_some, Option.bind_some]
    rw [beq_self_eq_true]
end Go.Proofs.YtlglbpjccpdloaaGreatDoor.Ext
set_option linter.unusedVariables false
namespace Go.Proofs.YtlglbpjccpdloaaGreatDoor.Ext
open Go.RowKit
set_option maxRecDepth 100000 in
theorem laid_asciiSpace_is {H : Type} : (Rows.laid_strings_asciiSpace : DataW H) = Lib.tabData .u8 Lib.asciiSpaceTab := by rfl
set_option maxRecDepth 100000 in
theorem tab_of_laid {w : World} {l : List (String × DataW Unit)} (h : laidMetH Tryz.prog l w) (hp : (l.all fun x => x.2.handleName?.isNone) = true) (hm : ("strings.asciiSpace", (Rows.laid_strings_asciiSpace : DataW Unit)) ∈ l) : Tab w := by
  rw [MakeChecks.laidMetH_plain _ _ _ hp] at h
  obtain ⟨g, t, cs, fuel, p, hg, ht, hv, hd⟩ := Lib.laidMet.reads h hm
  have hg2 : Tryz.prog.globalNamed "strings.asciiSpace" = some 0 := by kernel_rfl
  obtain rfl := Option.some.inj (hg2.symm.trans hg)
  have h1 : ((Tryz.prog.globals[0]?).bind fun x => Tryz.prog.underlying x.type) = some (.array 256 5) := by kernel_rfl
  have h2 : ((Tryz.prog.globals[0]?).map fun x => Tryz.prog.cellsOf x.type) = some 256 := by kernel_rfl
  obtain ⟨x, hx, rfl⟩ := Option.map_eq_some_iff.1 ht
  rw [hx] at h1 h2
  rw [laid_asciiSpace_is] at hd
  have hc := Lib.cells_of_tab (P := Tryz.prog) h1 Tryz.underlying5 (by kernel_rfl) (Option.some.inj h2) hd
  unfold Tab Lib.TabIs
  rw [hv, ← hc]
end Go.Proofs.YtlglbpjccpdloaaGreatDoor.Ext
set_option linter.unusedVariables false
set_option linter.unusedSimpArgs false
namespace Go.Proofs.YtlglbpjccpdloaaGreatDoor.Arg
open Go.RowKit Go.ChangeShapes Go.WideShapes Go.ChangeAt Go.Proofs.YtlglbpjccpdloaaGreatDoorW.PrintWords Go.Proofs.YtlglbpjccpdloaaGreatDoorW.PrintLast
theorem each_mem {H : Type} {P : Program} : ∀ {ts : List TypeId} {ds : List (DataW H)} {i : Nat} {t : TypeId} {d : DataW H} {n : Nat}, ts[i]? = some t → ds[i]? = some d → n ∈ d.weights P t → n ∈ DataW.weightsEach P ts ds
  | _ :: _, _ :: _, 0, t, d, n, h1, h2, hn => by
    simp only [List.getElem?_cons_zero, Option.some.injEq] at h1 h2
    subst h1 h2
    rw [DataW.weightsEach, List.mem_append]
    exact .inl hn
  | _ :: ts, _ :: ds, i + 1, t, d, n, h1, h2, hn => by
    rw [DataW.weightsEach, List.mem_append]
    exact .inr (each_mem (i := i) (by simpa using h1) (by simpa using h2) hn)
  | [], _, i, t, d, n, h1, h2, hn => by simp at h1
  | _ :: _, [], i, t, d, n, h1, h2, hn => by simp at h2
theorem part_mem {H : Type} {P : Program} {t : TypeId} {fs : Array Field} {ps : List (DataW H)} (ht : P.underlying t = some (.struct fs)) {i : Nat} {f : Field} {d : DataW H} {n : Nat} (hf : fs[i]? = some f) (hd : ps[i]? = some d) (hn : n ∈ d.weights P f.type) : n ∈ (DataW.agg ps).weights P t := by
  rw [DataW.weights, ht]
  refine each_mem (i := i) (t := f.type) ?_ hd hn
  rw [List.getElem?_map, Array.getElem?_toList, hf]
  rfl
set_option maxRecDepth 100000 in
theorem order_arg {H : Type} {enc : TypeId × Value → H} {w : World} {base : Nat} {sp : Nat → Bool} {held : Bool} {c : Array Value} {dd : DataW H} {ps : List MemPlace} {ts : List TypeId} {ds : List (DataW H)}
    (ht : DataW.Trod enc Tryz.prog w base sp held 31 (.agg c) dd ps) (hsz : (DataW.weightsEach Tryz.prog ts ds).all (· ≤ reachBytes) = true) {j : Nat} (h1 : ts[j]? = some 31) (h2 : ds[j]? = some dd) :
    ∃ (o0 : Int) (o1 o2 : ByteArray) (o3 : Int) (o4 : ByteArray) (o5 : Int) (o6 : Bool) (o7 o8 o9 : Int), c = #[.int .i64 o0, .string o1, .string o2, .int .i64 o3, .string o4, .int .i64 o5, .bool o6, .int .i64 o7, .int .i64 o8, .int .i64 o9] ∧
      o1.size ≤ 140737488351232 ∧ o2.size ≤ 140737488351232 ∧ o4.size ≤ 140737488351232 := by
  obtain ⟨fuel, hx⟩ := ht
  obtain ⟨xs, n, rfl, hdd, hlen, hxs, hf⟩ := DataW.trod_struct Tryz.underlying31 hx
  obtain ⟨rfl, _⟩ := Prod.mk.injEq _ _ _ _ ▸ hdd
  rw [show Tryz.prog.cellsOf 31 = 10 by kernel_rfl] at hlen
  have hi : Tryz.prog.cellsOf 3 = 1 := by kernel_rfl
  have hs : Tryz.prog.cellsOf 9 = 1 := by kernel_rfl
  have hb : Tryz.prog.cellsOf 4 = 1 := by kernel_rfl
  have htx : Tryz.prog.cellsOf 25 = 6 := by kernel_rfl
  have hw := fun n hn => List.all_eq_true.1 hsz n (DataW.weights_mem_each h1 h2 n hn)
  have hreach : reachBytes = 140737488351232 := rfl
  obtain ⟨c⟩ := c
  simp only [Value.cells] at hlen hf hx
  match c, hlen, xs, hxs with
  | [c0, c1, c2, c3, c4, c5, c6, c7, c8, c9], _, [x0, x1, x2, x3, x4], _ =>
    have f0 := hf 0 _ rfl
    have f1 := hf 1 _ rfl
    have f2 := hf 2 _ rfl
    have f3 := hf 3 _ rfl
    have f4 := hf 4 _ rfl
    simp [hi, hs, hb, htx] at f0 f1 f2 f3 f4
    obtain ⟨a0, e0, -, -⟩ := DataW.trod_int Tryz.underlying3 f0
    obtain ⟨a1, e1, q1, -⟩ := DataW.trod_string Tryz.underlying9 f1
    obtain ⟨a2, e2, q2, -⟩ := DataW.trod_string Tryz.underlying9 f2
    obtain ⟨a3, e3, -, -⟩ := DataW.trod_int Tryz.underlying3 f3
    obtain ⟨ys, m, hm, q4, hlen4, hys, hg⟩ := DataW.trod_struct Tryz.underlying25 f4
    match ys, hys with
    | [y0, y1, y2, y3, y4, y5], _ =>
      have g0 := hg 0 _ rfl
      have g1 := hg 1 _ rfl
      have g2 := hg 2 _ rfl
      have g3 := hg 3 _ rfl
      have g4 := hg 4 _ rfl
      have g5 := hg 5 _ rfl
      simp [hi, hs, hb] at g0 g1 g2 g3 g4 g5
      obtain ⟨b0, k0, p0, -⟩ := DataW.trod_string Tryz.underlying9 g0
      obtain ⟨b1, k1, -, -⟩ := DataW.trod_int Tryz.underlying3 g1
      obtain ⟨b2, k2, -⟩ := DataW.trod_bool Tryz.underlying4 g2
      obtain ⟨b3, k3, -, -⟩ := DataW.trod_int Tryz.underlying3 g3
      obtain ⟨b4, k4, -, -⟩ := DataW.trod_int Tryz.underlying3 g4
      obtain ⟨b5, k5, -, -⟩ := DataW.trod_int Tryz.underlying3 g5
      simp at e0 e1 e2 e3 k0 k1 k2 k3 k4 k5
      subst e0 e1 e2 e3 k0 k1 k2 k3 k4 k5
      have sz : ∀ (s : ByteArray) (nn : Nat), nn = s.size → nn ∈ (DataW.agg ([x0, x1, x2, x3, x4].map (·.1)) : DataW H).weights Tryz.prog 31 → s.size ≤ 140737488351232 := by
        intro s nn he hn
        have := hw nn hn
        simp at this
        omega
      have len : ∀ s : ByteArray, s.data.toList.length = s.size := fun s => by rw [Array.length_toList]; rfl
      refine ⟨a0, a1, a2, a3, b0, b1, b2, b3, b4, b5, rfl, sz a1 _ (len a1) ?_, sz a2 _ (len a2) ?_, sz b0 _ (len b0) ?_⟩
      · refine part_mem Tryz.underlying31 (i := 1) rfl rfl ?_
        rw [q1]; simp [DataW.weights]
      · refine part_mem Tryz.underlying31 (i := 2) rfl rfl ?_
        rw [q2]; simp [DataW.weights]
      · refine part_mem Tryz.underlying31 (i := 4) rfl rfl ?_
        rw [q4]
        refine part_mem Tryz.underlying25 (i := 0) rfl rfl ?_
        rw [p0]; simp [DataW.weights]
end Go.Proofs.YtlglbpjccpdloaaGreatDoor.Arg
namespace Go.Proofs.YtlglbpjccpdloaaGreatDoor.orderWrites
open Go.ChangeShapes Go.WideShapes Go.ChangeAt Go.RowKit
open Go.ChangeMaps (open_string shut_string)
set_option linter.unusedVariables false
theorem own : ownKnob Tryz.prog.godebug = none := by kernel_rfl
theorem laidOut : laidOutB Tryz.prog = true := by kernel_rfl
theorem door_met (os : Os) (args : Array Value) : laidMetH Tryz.prog Rows.orderWritesRow.laid ((World.laidAll Tryz.prog os Rows.orderWritesRow.laid).forCall (fun _ _ => 0) ⟨#[], args, []⟩).memory :=
  by rw [MakeChecks.laidMetH_plain _ _ _ (by kernel_rfl)]; exact laidMet_laidAll args (by kernel_rfl) (by kernel_rfl)
set_option maxRecDepth 100000 in
theorem lifted (os : Os) (started : os.Started) (H : Type) (enc : TypeId × Value → H) :
    ReturnsInHanded {} Tryz.checked os 4 .any (fun w args => (Rows.orderWritesSpec.pre enc Tryz.prog Tryz.f4 [] false w args ∧ laidMetH Tryz.prog Rows.orderWritesRow.laid w) ∧ sizedMet enc Tryz.prog Tryz.f4 (OpenSpec.ofChange Rows.orderWritesSpec) false w args) (Rows.orderWritesSpec.post enc Tryz.prog Tryz.f4 false true false false) := by
  refine returnsInHanded_of_change_and (C := Tryz.checked) (X := fun w _ => laidMetH Tryz.prog Rows.orderWritesRow.laid w) (fun _ _ _ hh h => h.of_heap hh) own started (by kernel_rfl) Tryz.func4
    (ChangeSpec.witness_shaped (enc := enc) (C := Tryz.checked) (os := os) (X := fun w _ => laidMetH Tryz.prog Rows.orderWritesRow.laid w) false (World.laidAll Tryz.prog os Rows.orderWritesRow.laid) #[.agg #[.int .i64 0, .string ByteArray.empty, .string ByteArray.empty, .int .i64 0, .string ByteArray.empty, .int .i64 0, .bool false, .int .i64 0, .int .i64 0, .int .i64 0]] 8 rfl (World.shaped_of_RefB (by kernel_rfl) (by kernel_rfl)) (by kernel_rfl) (by kernel_rfl) (by kernel_rfl) (door_met os _)) ?_
  intro W base args ds gs before hval0 hW hcnd hsz0 hlaid_ _
  have hsz : (DataW.weightsEach Tryz.prog (Tryz.f4.params.toList ++ Rows.orderWritesSpec.plain.varTypes Tryz.prog) (ds ++ gs)).all (· ≤ reachBytes) = true := hsz0
  have hval : ∀ (j : Nat) t v, Tryz.f4.params[j]? = some t → args[j]? = some v → Value.okWide Tryz.prog W .any base t v := hval0
  have hW' := hW
  obtain ⟨p, q, hA0, hV, rfl, hfz, hnd⟩ := hW
  have hA : DataW.TrodAll enc Tryz.prog W 0 (fun _ => true) true Tryz.f4.params.toList args.toList ds p := hA0
  rw [Tryz.params4] at hA hval hsz
  obtain ⟨v0, vs0, d0, ds0, p0, q0, hargs, rfl, rfl, h0, r0'⟩ := trodAll_cons hA
  obtain ⟨rfl, rfl, rfl⟩ := trodAll_nil r0'
  obtain rfl : args = #[v0] := by cases args; simp_all
  obtain ⟨rfl, rfl⟩ := trodVars_none hV
  have k0 := h0
  have lt0 : ∀ x ∈ p0, x.block < W.heap.size := by obtain ⟨m, hm⟩ := k0; exact DataW.trod_lt m _ _ _ hm
  obtain ⟨c0, rfl, _⟩ := okWide_struct Tryz.underlying31 (hval 0 31 v0 rfl rfl)
  obtain ⟨o00, o01, o02, o03, o04, o05, o06, o07, o08, o09, rfl, e0⟩ := Arg.order_arg h0 hsz (j := 0) rfl rfl
  clear hA0 hval0 hsz0 hsz
  refine (POrdB.chicanelaw16_OrderWrites.calls _ _ _ _ _ _ _ _ _ _ _ true W ⟨Ext.tab_of_laid hlaid_ (by kernel_rfl) (List.Mem.tail _ (List.Mem.tail _ (List.Mem.head _)))⟩ rfl (Ext.writes_pure _ _ _ _ _ _ _ _ _ _ e0.1 e0.2.1 e0.2.2).choose_spec).mono fun e W' ⟨he, bel⟩ => ?_
  subst he
  exact ⟨_, rfl, _, _, _, [], _, [], hW', trodAll_mk1 (shut_bool Tryz.underlying4 _), (trodAll_cons_mk (Below.trod laidOut (by kernel_rfl) (of_decide_eq_true (by kernel_rfl)) k0 bel lt0) trodAll_mk0), rfl, bel.frame _, fun h => by cases h⟩
theorem over : Rows.orderWritesRow.holds Tryz.pinned (OpenSpec.ofChange Rows.orderWritesSpec) :=
  OpenClaim.holds_of_wide 4 Tryz.f4 rfl rfl rfl rfl rfl rfl rfl ⟨rfl, rfl, rfl, rfl, rfl⟩ rfl rfl rfl rfl rfl (by kernel_rfl) Tryz.func4 (by kernel_rfl)
    (of_decide_eq_true (by kernel_rfl)) (by unfold Func.isWrapper; first | (rw [if_pos (by decide +kernel)]; kernel_rfl) | (rw [if_neg (by decide +kernel)]; exact ⟨rfl, rfl⟩))
    (fun os started H enc _ => lifted os started H enc)
theorem proved : Rows.OrderWritesSaid := over
end Go.Proofs.YtlglbpjccpdloaaGreatDoor.orderWrites
namespace Go.Proofs.YtlglbpjccpdloaaGreatDoor
theorem orderWrites_holds : Rows.OrderWritesSaid := orderWrites.proved
end Go.Proofs.YtlglbpjccpdloaaGreatDoor
namespace Go.Proofs.YtlglbpjccpdloaaGreatDoor
theorem orderWritesCard_holds : Rows.OrderWritesCardSaid :=
  Claim7.holds_tied_plain_at .later [] [.data, .listed, .data, .pinned] true (true, "85f09b71a7ab690d0f24d1da2b5903ee9800bbabff87712d2e3dd9160d8e756f") true
    orderWrites_holds (fun _ h => by cases h) (by kernel_rfl) (fun _ h => by cases h) orderWrites_row_tie rfl ⟨rfl, rfl⟩ (by kernel_rfl) rfl
    (fun f fn hf hfn => by
      obtain rfl : f = 4 := Option.some.inj ((show Tryz.prog.funcNamed "chicane/chicanelaw16.OrderWrites" = some 4 by kernel_rfl).symm.trans hf) |>.symm
      obtain rfl : fn = Tryz.f4 := (Option.some.inj (Tryz.func4.symm.trans hfn)).symm
      exact ⟨by kernel_rfl, fun j t ht => by
        rw [Tryz.params4] at ht
        have h3 : t = 31 := by
          rcases j with _ | j
          · simpa using ht.symm
          simp at ht
        rcases h3 with rfl
        · exact (show Tryz.prog.wantsStandIn 31 = false by kernel_rfl)⟩)
    (by kernel_rfl)
end Go.Proofs.YtlglbpjccpdloaaGreatDoor
