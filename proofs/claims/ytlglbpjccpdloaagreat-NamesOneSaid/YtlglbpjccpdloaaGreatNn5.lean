/- Gathered by a program of this session (shake.py): what the claim's theorem needs. -/
import Derived.Test.YtlglbpjccpdloaaGreatNn1
import Derived.Test.YtlglbpjccpdloaaGreatNn3
import Derived.Test.YtlglbpjccpdloaaGreatNn4
import Derived.Lib.Bytealg
set_option linter.unusedVariables false
set_option linter.unusedSimpArgs false
namespace Go.Proofs.YtlglbpjccpdloaaGreat.Ext
end Go.Proofs.YtlglbpjccpdloaaGreat.Ext
namespace Go.Proofs.YtlglbpjccpdloaaGreat.PNamA
end Go.Proofs.YtlglbpjccpdloaaGreat.PNamA
namespace Go.Proofs.YtlglbpjccpdloaaGreat.Tox
end Go.Proofs.YtlglbpjccpdloaaGreat.Tox
namespace Go.Proofs.YtlglbpjccpdloaaGreat.ToxZ
end Go.Proofs.YtlglbpjccpdloaaGreat.ToxZ
namespace Go.Proofs.YtlglbpjccpdloaaGreatW.PrintLast
end Go.Proofs.YtlglbpjccpdloaaGreatW.PrintLast
namespace Go.Proofs.YtlglbpjccpdloaaGreatW.PrintMore
end Go.Proofs.YtlglbpjccpdloaaGreatW.PrintMore
namespace Go.Proofs.YtlglbpjccpdloaaGreatW.PrintWords
end Go.Proofs.YtlglbpjccpdloaaGreatW.PrintWords
set_option linter.unusedVariables false
set_option linter.unusedSimpArgs false
namespace Go.Proofs.YtlglbpjccpdloaaGreat.Ext
open Go.RowKit Go.Shelf Go.Proofs.YtlglbpjccpdloaaGreat.PNamA Go.Proofs.YtlglbpjccpdloaaGreat.Tox Go.Proofs.YtlglbpjccpdloaaGreat.ToxZ Go.Proofs.YtlglbpjccpdloaaGreatW.PrintWords Go.Proofs.YtlglbpjccpdloaaGreatW.PrintLast
abbrev AX := S39 × (Option Addr × Nat)
def enc4 (a : AX) : List Value := [.string a.1.f0, .bool a.1.f1, .int .i64 a.1.f2, .slice a.2.1 a.1.f3.length a.2.2]
instance : Inhabited S39 := ⟨z39⟩
theorem enc4_len (a : AX) : (enc4 a).length = 4 := rfl
theorem enc4_one (a : AX) : ∀ v ∈ enc4 a, v.oneCell' = true := by
  intro v hv
  simp [enc4] at hv
  rcases hv with rfl | rfl | rfl | rfl <;> rfl
def cmpN (a b : AX) : Int := Lib.compareBytes a.1.f0.data.toList b.1.f0.data.toList
theorem compare_lt : ∀ (a b : List UInt8), Lib.compareBytes a b < 0 ↔ Op.bytesLess a b = true
  | [], [] => by simp [Lib.compareBytes, Op.bytesLess]
  | [], _ :: _ => by simp [Lib.compareBytes, Op.bytesLess]
  | _ :: _, [] => by simp [Lib.compareBytes, Op.bytesLess]
  | a :: x, b :: y => by
    simp only [Lib.compareBytes, Op.bytesLess, Bool.or_eq_true, decide_eq_true_eq, Bool.and_eq_true, beq_iff_eq]
    by_cases h1 : a < b
    · rw [if_pos h1]; simp [h1]
    · rw [if_neg h1]
      by_cases h2 : b < a
      · rw [if_pos h2]
        constructor
        · intro h; omega
        · rintro (h | ⟨rfl, _⟩)
          · exact absurd h h1
          · exact absurd h2 h1
      · rw [if_neg h2, compare_lt x y]
        have : a = b := by
          rw [u8_lt] at h1 h2
          exact UInt8.toNat_inj.1 (by omega)
        simp [this, h1]
theorem ltOf_cmpN (a b : AX) : ltOf cmpN a b = ltS a.1.f0 b.1.f0 := by
  unfold ltOf cmpN ltS
  rw [Bool.eq_iff_iff, decide_eq_true_eq, compare_lt, ByteArray.toList_eq, ByteArray.toList_eq]
theorem swo_cmpN : Go.Sort.SWO (ltOf cmpN) where
  irrefl x := by rw [ltOf_cmpN]; exact ltS_irrefl _
  trans x y z h1 h2 := by rw [ltOf_cmpN] at *; exact ltS_trans h1 h2
  ntrans x y z h1 h2 := by
    rw [ltOf_cmpN] at *
    cases h : ltS x.1.f0 z.1.f0 with
    | false => rfl
    | true =>
      cases h3 : ltS y.1.f0 x.1.f0 with
      | true => rw [ltS_trans h3 h] at h2; cases h2
      | false =>
        have := ltS_tri h1 h3
        rw [this] at h
        rw [h] at h2
        cases h2
def insP (p : S39) : List S39 → List S39
  | [] => [p]
  | x :: r => if ltS p.f0 x.f0 then p :: x :: r else x :: insP p r
theorem insP_perm (p : S39) : ∀ l, (insP p l).Perm (p :: l)
  | [] => List.Perm.refl _
  | x :: r => by
    unfold insP
    split
    · exact List.Perm.refl _
    · exact ((insP_perm p r).cons x).trans (List.Perm.swap p x r)
abbrev ltP (x y : S39) : Prop := ltS x.f0 y.f0 = true
theorem insP_pair (p : S39) : ∀ l, l.Pairwise ltP → p.f0 ∉ namesP l → (insP p l).Pairwise ltP
  | [], _, _ => by simp [insP]
  | x :: r, h, hn => by
    rw [List.pairwise_cons] at h
    unfold insP
    by_cases hp : ltS p.f0 x.f0 = true
    · rw [if_pos hp]
      refine List.pairwise_cons.2 ⟨fun y hy => ?_, List.pairwise_cons.2 h⟩
      rcases List.mem_cons.1 hy with rfl | hy
      · exact hp
      · exact ltS_trans hp (h.1 y hy)
    · rw [if_neg hp]
      simp only [namesP, List.map_cons, List.mem_cons, not_or] at hn
      refine List.pairwise_cons.2 ⟨fun y hy => ?_, insP_pair p r h.2 hn.2⟩
      have hy' := (insP_perm p r).mem_iff.1 hy
      rcases List.mem_cons.1 hy' with rfl | hy'
      · cases hxp : ltS x.f0 y.f0 with
        | true => exact hxp
        | false => exact absurd (ltS_tri (by simpa using hp) hxp) hn.1
      · exact h.1 y hy'
theorem uniq_sorted : ∀ (a b : List S39), a.Perm b → a.Pairwise ltP → b.Pairwise ltP → a = b
  | [], b, h, _, _ => by rw [List.Perm.nil_eq h]
  | x :: r, [], h, _, _ => by have := h.length_eq; simp at this
  | x :: r, y :: t, h, ha, hb => by
    have hxy : x = y := by
      have hx : x ∈ y :: t := h.mem_iff.1 (by simp)
      have hy : y ∈ x :: r := h.mem_iff.2 (by simp)
      rcases List.mem_cons.1 hx with hx | hx
      · exact hx
      · rcases List.mem_cons.1 hy with hy | hy
        · exact hy.symm
        · have h1 := (List.pairwise_cons.1 hb).1 x hx
          have h2 := (List.pairwise_cons.1 ha).1 y hy
          have h3 := ltS_trans h1 h2
          rw [ltS_irrefl] at h3
          cases h3
    subst hxy
    rw [uniq_sorted r t (List.Perm.cons_inv h) (List.pairwise_cons.1 ha).2 (List.pairwise_cons.1 hb).2]
theorem right_pairP {l : List S39} (h : rightB l = true) : l.Pairwise ltP := by
  have := right_pair h
  rw [namesP, List.pairwise_map] at this
  exact this
theorem sorted_ins {l : List S39} {p : S39} {D R : List AX} (h : rightB l = true) (hp : p.f0 ∉ namesP l) (hD : D.map (·.1) = l ++ [p]) (hperm : R.Perm D) (hs : ∀ (i j : Nat) (x y : AX), i < j → R[i]? = some x → R[j]? = some y → ltS y.1.f0 x.1.f0 = false) : R.map (·.1) = insP p l := by
  have hP1 : (R.map (·.1)).Perm (insP p l) := by
    refine (hperm.map _).trans ?_
    rw [hD]
    exact (List.perm_append_singleton p l).trans (insP_perm p l).symm
  have hins := insP_pair p l (right_pairP h) hp
  have hnd : ((R.map (·.1)).map (·.f0)).Nodup := by
    have h1 : ((insP p l).map (·.f0)).Nodup := by
      rw [List.Nodup, List.pairwise_map]
      exact hins.imp fun h => ltS_ne h
    exact (hP1.map _).nodup_iff.2 h1
  refine uniq_sorted _ _ hP1 ?_ hins
  rw [List.pairwise_map]
  refine List.pairwise_iff_getElem.2 fun i j hi hj hij => ?_
  have h1 := hs i j _ _ hij (List.getElem?_eq_getElem hi) (List.getElem?_eq_getElem hj)
  cases h2 : ltS R[i].1.f0 R[j].1.f0 with
  | true => exact h2
  | false =>
    have he := ltS_tri h2 h1
    rw [List.Nodup, List.map_map, List.pairwise_map] at hnd
    have := List.pairwise_iff_getElem.1 hnd i j hi hj hij
    exact absurd he this
def mayB (n : Int) : Bool := decide (1 ≤ n) && decide (n ≤ 16)
def addOf (l : List S39) (s : ByteArray) (n : Int) : List S39 × Int :=
  if rightB l then (if nameOk s then (if 0 ≤ place (namesP l) s then (l, 141) else if mayB n then (if 8 ≤ l.length then (l, 143) else (insP ⟨s, true, n, []⟩ l, 0)) else (l, 144)) else (l, 140)) else ([], 1)
def names_Add.f (l : List S39) (s : ByteArray) (n : Int) : Option (List S39 × Int) := if l.length ≤ 4611686018427387904 then some (addOf l s n) else none
theorem add1_clo (x y : AX) (W : World) :
    Calls Tryz.prog 35 #[.agg #[.string x.1.f0, .bool x.1.f1, .int .i64 x.1.f2, .slice x.2.1 x.1.f3.length x.2.2], .agg #[.string y.1.f0, .bool y.1.f1, .int .i64 y.1.f2, .slice y.2.1 y.1.f3.length y.2.2]] W fun e w' => e = .returned (.int .i64 (cmpN x y)) ∧ GrK W w' := by
  have HC := Lib.hid (fun W => Tryz.strings_Compare x.1.f0 y.1.f0 W)
  have HG := Lib.hid (((GrK.refl W).alloc (.cells #[.string x.1.f0, .bool x.1.f1, .int .i64 x.1.f2, .slice x.2.1 x.1.f3.length x.2.2] 39)).alloc (.cells #[.string y.1.f0, .bool y.1.f1, .int .i64 y.1.f2, .slice y.2.1 y.1.f3.length y.2.2] 39))
  unfold cmpN
  generalize Lib.compareBytes x.1.f0.data.toList y.1.f0.data.toList = r at *
  go_enter Tryz.func35, Tryz.ntmps35
  go_wp2_with (go_at_call 36; refine (HC.out _).mono ?_; rintro e w1 ⟨rfl, rfl⟩)
  go_ret
  exact ⟨rfl, HG.out⟩
theorem add1_lays (blk off size : Nat) (w : World) : CmpLays Tryz.prog 35 #[] enc4 4 cmpN blk off size w := by
  intro m os dk _ x y
  exact add1_clo x y _
theorem agg_prox (w : World) : (isAgg 39).run Tryz.prog w = .ok true w := by kernel_rfl
theorem size_prox (w : World) : (Go.sizeOf 39).run Tryz.prog w = .ok 4 w := by kernel_rfl
theorem pick_list {α : Type} (P : Nat → α → Prop) : ∀ (n : Nat), (∀ j, j < n → ∃ a, P j a) → ∃ l : List α, l.length = n ∧ ∀ j a, l[j]? = some a → P j a
  | 0, _ => ⟨[], rfl, fun j a h => by simp at h⟩
  | n + 1, h => by
    obtain ⟨l, hl, hp⟩ := pick_list P n (fun j hj => h j (by omega))
    obtain ⟨a, ha⟩ := h n (by omega)
    refine ⟨l ++ [a], by simp [hl], fun j b hb => ?_⟩
    by_cases hj : j < n
    · rw [List.getElem?_append_left (by omega)] at hb
      exact hp j b hb
    · have : j = n := by
        have := (List.getElem?_eq_some_iff.1 hb).1
        simp [hl] at this
        omega
      subst this
      rw [List.getElem?_append_right (by omega), hl, Nat.sub_self] at hb
      simp at hb
      rw [← hb]
      exact ha
theorem drop_take_flat (D : List AX) (j : Nat) (a : AX) (h : D[j]? = some a) : ((flat enc4 D).drop (j * 4)).take 4 = enc4 a := by
  apply List.ext_getElem?
  intro i
  rw [List.getElem?_take]
  split
  · rename_i hi
    rw [List.getElem?_drop, flat_at enc4_len D j a i h hi]
  · rename_i hi
    rw [List.getElem?_eq_none (by rw [enc4_len]; omega)]
theorem own_raw {W : World} {B : Nat} {v : Value} {D : List AX} (h : W.ownsRow B 39 4 v D.length (flat enc4 D)) : (Kd.raw 4).R 39 W B (fun _ => True) v (D.map enc4) :=
  ⟨fun _ _ => trivial, flat enc4 D, by rw [List.length_map]; exact h, by rw [List.length_map]; exact flat_length enc4_len D, fun j row hj => by
    rw [List.getElem?_map] at hj
    obtain ⟨a, ha, rfl⟩ := Option.map_eq_some_iff.1 hj
    exact ⟨by rw [show (Kd.raw 4).sz = 4 from rfl, drop_take_flat D j a ha], by rw [show (Kd.raw 4).sz = 4 from rfl, drop_take_flat D j a ha]; rfl, by rw [show (Kd.raw 4).sz = 4 from rfl, drop_take_flat D j a ha]; exact enc4_one a⟩⟩
theorem sort_open {W : World} {B b n cap : Nat} {xs : List S39} (h : SP W B b n cap xs) :
    ∃ (D : List AX) (okj : Nat → Nat → Prop), D.map (·.1) = xs ∧ W.ownsRow B 39 4 (.slice (some ⟨b, 0, none⟩) n cap) n (flat enc4 D) ∧ (∀ i j k, okj i k → okj j k → i = j) ∧ (∀ j k, okj j k → k ≠ b) ∧ ∀ j a, D[j]? = some a → k39.M W B (okj j) a.1 (enc4 a) := by
  obtain ⟨rows, okj, ⟨_, inner, ho, hr⟩, hl, hap, hok, hM⟩ := raw_of_S h
  have hn := (Kd.S_reads' h).1
  obtain ⟨D, hDl, hD⟩ := pick_list (fun j (a : AX) => xs[j]? = some a.1 ∧ rows[j]? = some (enc4 a)) xs.length (fun j hj => by
    have hx : xs[j]? = some xs[j] := List.getElem?_eq_getElem hj
    have hrow : rows[j]? = some (rows[j]'(by omega)) := List.getElem?_eq_getElem (by omega)
    obtain ⟨v3, hopen, hR3⟩ := k39_openM (hM j _ _ hx hrow)
    obtain ⟨A, c, hv⟩ := Kd.R_slice hR3
    subst hv
    exact ⟨(xs[j], (A, c)), hx, by rw [hrow, hopen]; rfl⟩)
  have hDx : D.map (·.1) = xs := by
    apply List.ext_getElem?
    intro j
    rw [List.getElem?_map]
    by_cases hj : j < D.length
    · have := (hD j D[j] (List.getElem?_eq_getElem hj)).1
      rw [List.getElem?_eq_getElem hj, this]
      rfl
    · rw [List.getElem?_eq_none (by omega), List.getElem?_eq_none (by omega)]
      rfl
  have hin : inner = flat enc4 D := by
    have h1 : inner.length = rows.length * 4 := hr.1
    apply List.ext_getElem?
    intro t
    by_cases ht : t < D.length * 4
    · have hj : t / 4 < D.length := by omega
      have hDj := List.getElem?_eq_getElem hj
      have h2 : (inner.drop (t / 4 * 4)).take 4 = enc4 D[t / 4] := (hr.2 (t / 4) (enc4 D[t / 4]) (hD _ _ hDj).2).1
      have h3 := flat_at enc4_len D (t / 4) D[t / 4] (t % 4) hDj (by omega)
      rw [show t / 4 * 4 + t % 4 = t by omega] at h3
      rw [h3, ← h2, List.getElem?_take_of_lt (by omega), List.getElem?_drop, show t / 4 * 4 + t % 4 = t by omega]
    · rw [List.getElem?_eq_none (by omega), List.getElem?_eq_none (by rw [flat_length enc4_len]; omega)]
  refine ⟨D, okj, hDx, by rw [← hin]; rw [hl, ← hn] at ho; exact ho, hap, fun j k hk he => (hok j k hk).2 (by rw [he]; simp [Value.ownBlock]), fun j a ha => ?_⟩
  exact hM j a.1 (enc4 a) (hD j a ha).1 (hD j a ha).2
theorem sort_shut {W W' : World} {B b n cap : Nat} {D R : List AX} {okj : Nat → Nat → Prop} (hap : ∀ i j k, okj i k → okj j k → i = j) (hokb : ∀ j k, okj j k → k ≠ b) (hM : ∀ j a, D[j]? = some a → k39.M W B (okj j) a.1 (enc4 a)) (hown : W'.ownsRow B 39 4 (.slice (some ⟨b, 0, none⟩) n cap) n (flat enc4 R)) (hg : W.grownBy W' (some b))
    (hperm : R.Perm D) (hn : R.length = n) (hnd : (R.map (·.1.f0)).Nodup) : SP W' B b n cap (R.map (·.1)) := by
  subst hn
  have hraw := own_raw hown
  refine S_of_raw (d := k39) hraw (by simp) (fun j k => ∃ i, okj i k ∧ D[i]? = R[j]? ∧ j < R.length) (fun i j k h1 h2 => ?_) (fun j k h => ⟨trivial, fun he => ?_⟩) (fun _ _ => trivial) (fun j x row hx hrow => ?_)
  · obtain ⟨i1, h3, h4, h5⟩ := h1
    obtain ⟨j1, h6, h7, h8⟩ := h2
    have := hap _ _ _ h3 h6
    subst this
    rw [h4, List.getElem?_eq_getElem h5, List.getElem?_eq_getElem h8] at h7
    injection h7 with h7
    rcases Nat.lt_trichotomy i j with h | h | h
    · have := List.pairwise_iff_getElem.1 hnd i j (by simpa using h5) (by simpa using h8) h
      simp [h7] at this
    · exact h
    · have := List.pairwise_iff_getElem.1 hnd j i (by simpa using h8) (by simpa using h5) h
      simp [h7] at this
  · obtain ⟨i, h1, _⟩ := h
    exact hokb i k h1 (by simpa [Value.ownBlock] using he)
  · rw [List.getElem?_map] at hx hrow
    obtain ⟨a, ha, rfl⟩ := Option.map_eq_some_iff.1 hx
    rw [ha] at hrow
    injection hrow with hrow
    subst hrow
    have hmem : a ∈ D := hperm.mem_iff.1 (List.mem_of_getElem? ha)
    obtain ⟨i, hi⟩ := List.mem_iff_getElem?.1 hmem
    have hjl := (List.getElem?_eq_some_iff.1 ha).1
    refine k39.M_mono (fun k hk => ⟨i, hk, by rw [hi, ha], hjl⟩) (Kd.M_grown (hM i a hi) hg (fun k hk he => hokb i k hk (by injection he)))
theorem insP_names {l : List S39} {p : S39} (h : rightB l = true) (hp : p.f0 ∉ namesP l) : (namesP (insP p l)).Nodup := by
  rw [namesP, List.Nodup, List.pairwise_map]
  exact (insP_pair p l (right_pairP h) hp).imp fun h => ltS_ne h
theorem sort_calls {W : World} {B b n cap : Nat} {l : List S39} {p : S39} (hS : SP W B b n cap (l ++ [p])) (h : rightB l = true) (hp : p.f0 ∉ namesP l) :
    Calls Tryz.prog 34 #[.slice (some ⟨b, 0, none⟩) n cap, .func (.func 35) #[] #[]] W fun e w' => e = .returned (.tuple #[]) ∧ SP w' B b n cap (insP p l) ∧ W.grownBy w' (some b) := by
  obtain ⟨D, okj, hDx, hown, hap, hokb, hM⟩ := sort_open hS
  have hn := (Kd.S_reads' hS).1
  have hDl : D.length = n := by rw [hn, ← hDx, List.length_map]
  obtain ⟨hH, hbw⟩ := holds_of_own' enc4_len (by decide) hown
  have hsz : D.toArray.size < 4611686018427387904 := by
    have := (right_len h).1
    rw [List.size_toArray, hDl, hn]
    simp
    omega
  have hsort := AnyQ.slices_SortFunc Tryz.sortProx 4 agg_prox size_prox enc4 enc4_len enc4_one cmpN swo_cmpN 35 #[] b 0 cap D.toArray W (enters_of Tryz.func35 (by kernel_rfl) rfl) (add1_lays b 0 _ W) hH hbw hsz
  have hsort2 : Calls Tryz.prog 34 #[.slice (some ⟨b, 0, none⟩) n cap, .func (.func 35) #[] #[]] W fun e w' => e = .returned (.tuple #[]) ∧ ∃ d' m os, Go.Sort.PermIn 0 D.toArray.size D.toArray d' ∧ Go.Sort.SortedIn (ltOf cmpN) 0 D.toArray.size d' ∧ w' = sortWorldK enc4 4 W b 0 m d' os := by
    rw [← hDl]; exact hsort
  refine hsort2.mono ?_
  rintro e w' ⟨rfl, d', m, os, hperm, hsorted, rfl⟩
  obtain ⟨hps, _, hpp⟩ := hperm
  have hpp2 : d'.toList.Perm D := by
    have e1 : d'.extract 0 D.toArray.size = d' := by rw [← hps]; simp
    have e2 : D.toArray.extract 0 D.toArray.size = D.toArray := by simp
    rw [e1, e2] at hpp
    simpa using hpp
  have hso : ∀ (i j : Nat) (x y : AX), i < j → d'.toList[i]? = some x → d'.toList[j]? = some y → ltS y.1.f0 x.1.f0 = false := by
    intro i j x y hij hi hj
    obtain ⟨hil, rfl⟩ := List.getElem?_eq_some_iff.1 hi
    obtain ⟨hjl, rfl⟩ := List.getElem?_eq_some_iff.1 hj
    rw [Array.length_toList] at hil hjl
    have := hsorted i j (by omega) hij (by omega)
    rw [getElem!_pos _ i hil, getElem!_pos _ j hjl, ltOf_cmpN] at this
    simpa using this
  have hins := sorted_ins h hp hDx hpp2 hso
  have hlen : d'.toList.length = D.length := hpp2.length_eq
  obtain ⟨ho2, hg2⟩ := sorted_own enc4_len (by decide) hown hlen m os
  have hnd : (d'.toList.map (·.1.f0)).Nodup := by
    have := insP_names h hp
    rw [← hins, namesP, List.map_map] at this
    exact this
  refine ⟨rfl, ?_, hg2⟩
  rw [← hins]
  exact sort_shut hap hokb hM ho2 hg2 hpp2 (by rw [hlen, hDl]) hnd
set_option maxRecDepth 100000 in
set_option maxHeartbeats 2000000 in
theorem names_Add.calls (A0 : Option Addr) (c0 : Nat) (l0 : List S39) (s : ByteArray) (n : Int) (r1 : List S39) (r2 : Int) (w : World) (hr0 : Kd.C k39 w A0 l0.length l0) (hc0 : l0.length ≤ c0) (h : names_Add.f l0 s n = some (r1, r2)) :
    Calls Tryz.prog 15 #[.slice A0 l0.length c0, .string s, .int .i64 n] w fun e w' => ∃ v0_ : Value, e = .returned (.tuple #[v0_, .int .i64 r2]) ∧ Kd.S k39 39 w' w.heap.size (fun _ => True) v0_ r1 ∧ Below w.heap.size w w' := by
  unfold names_Add.f at h
  split at h
  · rename_i hm
    have hres := Option.some.inj h
    clear h
    have HRI := Lib.hid (right_calls A0 c0 l0 w hr0 hc0 hm)
    unfold addOf at hres
    cases hright : rightB l0
    · rw [hright] at HRI hres
      rw [if_neg (by simp)] at hres
      obtain ⟨rfl, rfl⟩ := Prod.mk.inj hres
      generalize l0.length = k at *
      clear hr0 hc0 hres
      go_enter Tryz.func15, Tryz.ntmps15
      go_wp2_with (first
        | (go_at_call 13; refine HRI.out.mono ?_; rintro e w1 ⟨rfl, hb⟩; have HB1 := Lib.hid hb; clear hb)
        | fail)
      go_ret2
      exact ⟨_, rfl, Kd.S_nil _ _ _ _ _, HB1.out⟩
    · rw [hright] at HRI hres
      rw [if_pos rfl] at hres
      have hsm := right_small hright
      have HO := Lib.hid (fun W (hb : Below w.heap.size w W) => names_own.calls A0 c0 l0 l0 W (Kd.C_below hr0 hb) hc0 (by rw [names_own.f, if_pos hsm]))
      have HAT := Lib.hid (fun W (hb : Below w.heap.size w W) => names_at_api_Proxy.calls A0 c0 l0 s _ W (Kd.C_below hr0 hb) hc0 rfl)
      have HNM := Lib.hid (fun W => toxic_Name.calls s _ W rfl)
      have HMY := Lib.hid (fun W => names_may.calls n (mayB n) W (by
        unfold names_may.f mayB
        by_cases h1 : 1 ≤ n
        · rw [if_pos (show n ≥ 1 from h1), decide_eq_true h1, Bool.true_and]
        · rw [if_neg (show ¬ n ≥ 1 from h1), decide_eq_false h1, Bool.false_and]))
      have hp0 : place (l0.map (·.f0)) s = place (namesP l0) s := rfl
      rw [hp0] at HAT
      have hl8 := (right_len hright).1
      cases hname : nameOk s
      · rw [hname] at HNM hres
        rw [if_neg (by simp)] at hres
        obtain ⟨rfl, rfl⟩ := Prod.mk.inj hres
        generalize hn : l0.length = k at *
        have HN := Lib.hid hn
        clear hr0 hc0 hres hsm hp0 hn hright
        go_enter Tryz.func15, Tryz.ntmps15
        go_wp2_with (first
          | (go_at_call 13; refine HRI.out.mono ?_; rintro e w1 ⟨rfl, hb⟩; have HB1 := Lib.hid hb; clear hb)
          | (go_at_call 29; refine (HNM.out _).mono ?_; rintro e w2 ⟨rfl, hb⟩; have HB2 := Lib.hid (HB1.out.trans (hb.mono HB1.out.size)); clear hb)
          | (go_at_call 30; refine (HO.out _ HB2.out).mono ?_; rintro e w5 ⟨v, rfl, hS, hb⟩; obtain ⟨A, c, hv⟩ := Kd.S_slice hS; rw [HN.out] at hv; subst hv; have HS := Lib.hid (Kd.S_lower hS HB2.out.size); have HB5 := Lib.hid (HB2.out.trans (hb.mono HB2.out.size)); clear hS hb)
          | fail)
        go_ret2
        exact ⟨_, rfl, HS.out, HB5.out⟩
      · rw [hname] at HNM hres
        rw [if_pos rfl] at hres
        by_cases hpos : 0 ≤ place (namesP l0) s
        · rw [if_pos hpos] at hres
          obtain ⟨rfl, rfl⟩ := Prod.mk.inj hres
          generalize place (namesP l0) s = p at *
          generalize hn : l0.length = k at *
          have HN := Lib.hid hn
          clear hr0 hc0 hres hsm hp0 hn hright
          go_enter Tryz.func15, Tryz.ntmps15
          go_wp2_with (first
            | (go_at_call 13; refine HRI.out.mono ?_; rintro e w1 ⟨rfl, hb⟩; have HB1 := Lib.hid hb; clear hb)
            | (go_at_call 29; refine (HNM.out _).mono ?_; rintro e w2 ⟨rfl, hb⟩; have HB2 := Lib.hid (HB1.out.trans (hb.mono HB1.out.size)); clear hb)
            | (go_at_call 31; refine (HAT.out _ HB2.out).mono ?_; rintro e w3 ⟨rfl, hb⟩; have HB3 := Lib.hid (HB2.out.trans (hb.mono HB2.out.size)); clear hb)
            | (go_at_call 30; refine (HO.out _ HB3.out).mono ?_; rintro e w5 ⟨v, rfl, hS, hb⟩; obtain ⟨A, c, hv⟩ := Kd.S_slice hS; rw [HN.out] at hv; subst hv; have HS := Lib.hid (Kd.S_lower hS HB3.out.size); have HB5 := Lib.hid (HB3.out.trans (hb.mono HB3.out.size)); clear hS hb)
            | fail)
          go_ret2
          exact ⟨_, rfl, HS.out, HB5.out⟩
        · rw [if_neg hpos] at hres
          have hnot : s ∉ namesP l0 := place_neg.1 (by omega)
          cases hmay : mayB n
          · rw [hmay] at HMY hres
            rw [if_neg (by simp)] at hres
            obtain ⟨rfl, rfl⟩ := Prod.mk.inj hres
            generalize place (namesP l0) s = p at *
            generalize hn : l0.length = k at *
            have HN := Lib.hid hn
            clear hr0 hc0 hres hsm hp0 hn hright hnot
            go_enter Tryz.func15, Tryz.ntmps15
            go_wp2_with (first
              | (go_at_call 13; refine HRI.out.mono ?_; rintro e w1 ⟨rfl, hb⟩; have HB1 := Lib.hid hb; clear hb)
              | (go_at_call 29; refine (HNM.out _).mono ?_; rintro e w2 ⟨rfl, hb⟩; have HB2 := Lib.hid (HB1.out.trans (hb.mono HB1.out.size)); clear hb)
              | (go_at_call 31; refine (HAT.out _ HB2.out).mono ?_; rintro e w3 ⟨rfl, hb⟩; have HB3 := Lib.hid (HB2.out.trans (hb.mono HB2.out.size)); clear hb)
              | (go_at_call 33; refine (HMY.out _).mono ?_; rintro e w4 ⟨rfl, hd⟩; have HB4 := Lib.hid (HB3.out.trans (hd.below.mono HB3.out.size)); clear hd)
              | (go_at_call 30; refine (HO.out _ HB4.out).mono ?_; rintro e w5 ⟨v, rfl, hS, hb⟩; obtain ⟨A, c, hv⟩ := Kd.S_slice hS; rw [HN.out] at hv; subst hv; have HS := Lib.hid (Kd.S_lower hS HB4.out.size); have HB5 := Lib.hid (HB4.out.trans (hb.mono HB4.out.size)); clear hS hb)
              | fail)
            go_ret2
            exact ⟨_, rfl, HS.out, HB5.out⟩
          · rw [hmay] at HMY hres
            rw [if_pos rfl] at hres
            by_cases hfull : 8 ≤ l0.length
            · rw [if_pos hfull] at hres
              obtain ⟨rfl, rfl⟩ := Prod.mk.inj hres
              generalize place (namesP l0) s = p at *
              have q1 : (8 : Int) ≤ (l0.length : Int) := by omega
              generalize hn : l0.length = k at *
              have HN := Lib.hid hn
              clear hr0 hc0 hres hsm hp0 hn hright hnot
              go_enter Tryz.func15, Tryz.ntmps15
              go_wp2_with (first
                | (go_at_call 13; refine HRI.out.mono ?_; rintro e w1 ⟨rfl, hb⟩; have HB1 := Lib.hid hb; clear hb)
                | (go_at_call 29; refine (HNM.out _).mono ?_; rintro e w2 ⟨rfl, hb⟩; have HB2 := Lib.hid (HB1.out.trans (hb.mono HB1.out.size)); clear hb)
                | (go_at_call 31; refine (HAT.out _ HB2.out).mono ?_; rintro e w3 ⟨rfl, hb⟩; have HB3 := Lib.hid (HB2.out.trans (hb.mono HB2.out.size)); clear hb)
                | (go_at_call 33; refine (HMY.out _).mono ?_; rintro e w4 ⟨rfl, hd⟩; have HB4 := Lib.hid (HB3.out.trans (hd.below.mono HB3.out.size)); clear hd)
                | (go_at_call 30; refine (HO.out _ HB4.out).mono ?_; rintro e w5 ⟨v, rfl, hS, hb⟩; obtain ⟨A, c, hv⟩ := Kd.S_slice hS; rw [HN.out] at hv; subst hv; have HS := Lib.hid (Kd.S_lower hS HB4.out.size); have HB5 := Lib.hid (HB4.out.trans (hb.mono HB4.out.size)); clear hS hb)
                | fail)
              go_ret2
              exact ⟨_, rfl, HS.out, HB5.out⟩
            · rw [if_neg hfull] at hres
              obtain ⟨rfl, rfl⟩ := Prod.mk.inj hres
              generalize place (namesP l0) s = p at *
              have q1 : ¬ ((8 : Int) ≤ (l0.length : Int)) := by omega
              have HSO := Lib.hid (fun W b k cap hS => @sort_calls W w.heap.size b k cap l0 ⟨s, true, n, []⟩ hS hright hnot)
              generalize hn : l0.length = k at *
              have HN := Lib.hid hn
              clear hr0 hc0 hres hsm hp0 hn hright hnot
              go_enter Tryz.func15, Tryz.ntmps15
              go_wp2_with (first
                | (go_at_call 13; refine HRI.out.mono ?_; rintro e w1 ⟨rfl, hb⟩; have HB1 := Lib.hid hb; clear hb)
                | (go_at_call 29; refine (HNM.out _).mono ?_; rintro e w2 ⟨rfl, hb⟩; have HB2 := Lib.hid (HB1.out.trans (hb.mono HB1.out.size)); clear hb)
                | (go_at_call 31; refine (HAT.out _ HB2.out).mono ?_; rintro e w3 ⟨rfl, hb⟩; have HB3 := Lib.hid (HB2.out.trans (hb.mono HB2.out.size)); clear hb)
                | (go_at_call 33; refine (HMY.out _).mono ?_; rintro e w4 ⟨rfl, hd⟩; have HB4 := Lib.hid (HB3.out.trans (hd.below.mono HB3.out.size)); clear hd)
                | (go_at_call 30; refine (HO.out _ HB4.out).mono ?_; rintro e w5 ⟨v, rfl, hS, hb⟩; obtain ⟨A, c, hv⟩ := Kd.S_slice hS; rw [HN.out] at hv; subst hv; have HS := Lib.hid (Kd.S_lower hS HB4.out.size); have HB5 := Lib.hid (HB4.out.trans (hb.mono HB4.out.size)); clear hS hb)
                | (at_builtin; refine nhold ?_)
                | fail)
              refine NHold.go ?_
              have hk := HN.out
              refine Kd.S_append (w0 := w) k39 w.heap.size rfl (.tmp 39) (.tmp 43) 22 39 _ 56 rfl Tryz.underlying22 info_prox rfl (by decide) (by decide) (.slice A k c) l0 ⟨s, true, n, []⟩ [.string s, .bool true, .int .i64 n, .slice none 0 0] (fun _ => True) (fun _ => False) rfl rfl
                (k39_mkM _ _ _ (⟨s, true, n, []⟩ : S39) (Kd.R_nil _ _ _ _ _)) (fun _ h => h.elim) (fun _ _ => trivial) (Kd.S_mono HS.out (fun _ h => ⟨h, fun x => x⟩)) HB5.out HB5.out.size (by omega) ?_
              intro v1 w6 hS1 hB1 hg hat
              obtain ⟨b, cap, hv, hbb, _⟩ := Kd.S_form hS1 (by simp)
              subst hv
              have HS6 := Lib.hid hS1
              have HB6 := Lib.hid hB1
              have HBB := Lib.hid hbb
              clear hS1 hB1 hg hat hbb hk
              generalize (l0 ++ [(⟨s, true, n, []⟩ : S39)]).length = kk at *
              go_wp2_with (go_at_call 34; refine (HSO.out _ b kk cap HS6.out).mono ?_; rintro e w7 ⟨rfl, hS7, hg7⟩; have HS7 := Lib.hid hS7; have HG7 := Lib.hid hg7; clear hS7 hg7)
              go_ret2
              exact ⟨_, rfl, HS7.out, HB6.out.grown HG7.out HB6.out.size (fun k hk => by injection hk with hk; have := HBB.out; omega)⟩
  · cases h
end Go.Proofs.YtlglbpjccpdloaaGreat.Ext
set_option linter.unusedVariables false
set_option linter.unusedSimpArgs false
namespace Go.Proofs.YtlglbpjccpdloaaGreat.Ext
open Go.RowKit Go.Proofs.YtlglbpjccpdloaaGreat.PNamA Go.Proofs.YtlglbpjccpdloaaGreat.Tox Go.Proofs.YtlglbpjccpdloaaGreat.ToxZ Go.Proofs.YtlglbpjccpdloaaGreatW.PrintWords Go.Proofs.YtlglbpjccpdloaaGreatW.PrintLast
theorem tox_set {W : World} {B : Nat} {ok : Nat → Prop} {g n c k : Nat} {l : List S24} (t : S24) (h : RT W B ok (.slice (some ⟨g, 0, none⟩) n c) l) (hk : k < n) :
    RT (W.setCells g (k * 6) [.string t.f0, .int .i64 t.f1, .bool t.f2, .int .i64 t.f3, .int .i64 t.f4, .int .i64 t.f5]) B ok (.slice (some ⟨g, 0, none⟩) n c) (l.set k t) ∧ W.grownBy (W.setCells g (k * 6) [.string t.f0, .int .i64 t.f1, .bool t.f2, .int .i64 t.f3, .int .i64 t.f4, .int .i64 t.f5]) (some g) := by
  obtain ⟨cc, hcl, hM, hcc, _⟩ := Kd.R_elem h z24 (k : Int) (by omega) (by omega)
  obtain rfl := k24_openM hM
  have h2 := Kd.R_seg (okp := fun _ => False) h (k : Int) (by omega) (by omega) (seg := [.string t.f0, .int .i64 t.f1, .bool t.f2, .int .i64 t.f3, .int .i64 t.f4, .int .i64 t.f5]) (j := 0) (x' := t) hcl hcc (Nat.le_refl 6) (k24_mkM _ _ _ _) (fun _ h => h.elim)
  rw [Int.toNat_natCast] at h2
  exact h2
theorem tox_cells {W : World} {B : Nat} {ok : Nat → Prop} {g n c k : Nat} {l : List S24} {y : S24} (h : RT W B ok (.slice (some ⟨g, 0, none⟩) n c) l) (hy : l[k]? = some y) :
    W.cell? ⟨g, k * 6, none⟩ = some (.string y.f0) ∧ W.cell? ⟨g, k * 6 + 1, none⟩ = some (.int .i64 y.f1) ∧ W.cell? ⟨g, k * 6 + 2, none⟩ = some (.bool y.f2) ∧ W.cell? ⟨g, k * 6 + 3, none⟩ = some (.int .i64 y.f3) ∧ W.cell? ⟨g, k * 6 + 4, none⟩ = some (.int .i64 y.f4) ∧ W.cell? ⟨g, k * 6 + 5, none⟩ = some (.int .i64 y.f5) ∧ ∀ j, W.frozen? ⟨g, k * 6 + j, none⟩ = false := by
  have hn := (Kd.R_reads' h).1
  have hk : k < l.length := (List.getElem?_eq_some_iff.1 hy).1
  obtain ⟨cc, hcl, hM, hcc, hfr⟩ := Kd.R_elem h z24 (k : Int) (by omega) (by omega)
  rw [Int.toNat_natCast, List.getD_eq_getElem?_getD, hy] at hM
  obtain rfl := k24_openM hM
  exact ⟨hcc 0 _ rfl, hcc 1 _ rfl, hcc 2 _ rfl, hcc 3 _ rfl, hcc 4 _ rfl, hcc 5 _ rfl, hfr⟩
theorem set_fin {W w2 : World} {B b n cap i g ln c k : Nat} {xs : List S39} {x : S39} {oki : Nat → Prop} {c0 c1 c2 : Value} (t : S24) (hB : B ≤ W.heap.size) (hb : Below W.heap.size W w2) (hBg : B ≤ g) (hR : RT W B oki (.slice (some ⟨g, 0, none⟩) ln c) x.f3) (hH : HP W B b n cap xs i oki [.string x.f0, .bool x.f1, .int .i64 x.f2, .slice (some ⟨g, 0, none⟩) ln c]) (hgok : oki g) (hk : k < ln) (m : Nat) :
    SP (((((((w2.drewN m).setCell ⟨g, k * 6, none⟩ (.string t.f0)).setCell ⟨g, k * 6 + 1, none⟩ (.int .i64 t.f1)).setCell ⟨g, k * 6 + 2, none⟩ (.bool t.f2)).setCell ⟨g, k * 6 + 3, none⟩ (.int .i64 t.f3)).setCell ⟨g, k * 6 + 4, none⟩ (.int .i64 t.f4)).setCell ⟨g, k * 6 + 5, none⟩ (.int .i64 t.f5)) B b n cap (xs.set i ⟨x.f0, x.f1, x.f2, x.f3.set k t⟩) ∧
    Below B W (((((((w2.drewN m).setCell ⟨g, k * 6, none⟩ (.string t.f0)).setCell ⟨g, k * 6 + 1, none⟩ (.int .i64 t.f1)).setCell ⟨g, k * 6 + 2, none⟩ (.bool t.f2)).setCell ⟨g, k * 6 + 3, none⟩ (.int .i64 t.f3)).setCell ⟨g, k * 6 + 4, none⟩ (.int .i64 t.f4)).setCell ⟨g, k * 6 + 5, none⟩ (.int .i64 t.f5)) := by
  obtain ⟨h1, h2⟩ := tox_set t (Kd.R_drewN (Kd.R_below hR hb) m) hk
  have hH2 := Kd.H_grown (Kd.H_drewN (Kd.H_below hH hb) m) h2 (fun k hk => by injection hk with hk; rw [← hk]; exact hgok)
  have h3 := Kd.H_back hH2 (x' := ⟨x.f0, x.f1, x.f2, x.f3.set k t⟩) (okp := oki) (k39_mkM _ _ _ (⟨x.f0, x.f1, x.f2, x.f3.set k t⟩ : S39) h1) (fun _ h => h)
  rw [Int.toNat_natCast] at h3
  refine ⟨h3, ?_⟩
  have hb2 : Below B W (w2.drewN m) := zqb (hb.mono hB) m
  exact ((((((hb2.setCell hBg _).setCell hBg _).setCell hBg _).setCell hBg _).setCell hBg _).setCell hBg _)
set_option maxRecDepth 100000 in
set_option maxHeartbeats 2000000 in
theorem settoxic_clo {W : World} {B b n cap i bo : Nat} {xs : List S39} {x : S39} (t : S24) (hB : B ≤ W.heap.size) (h : SP W B b n cap xs) (hx : xs[i]? = some x) (h8 : x.f3.length ≤ 1000000)
    (o0 : W.cell? ⟨bo, 0, none⟩ = some (.string t.f0)) (o1 : W.cell? ⟨bo, 1, none⟩ = some (.int .i64 t.f1)) (o2 : W.cell? ⟨bo, 2, none⟩ = some (.bool t.f2)) (o3 : W.cell? ⟨bo, 3, none⟩ = some (.int .i64 t.f3)) (o4 : W.cell? ⟨bo, 4, none⟩ = some (.int .i64 t.f4)) (o5 : W.cell? ⟨bo, 5, none⟩ = some (.int .i64 t.f5)) (hbo : bo < B) :
    Calls Tryz.prog 53 #[.pointer (some ⟨b, i * 4, none⟩), .pointer (some ⟨bo, 0, none⟩)] W (CloP B b n cap xs i (setT t x) W) := by
  obtain ⟨hBb, hbw⟩ := SP_b h
  obtain ⟨oki, A, c, hR, x0, x1, x2, x3, hfr, hok, hH⟩ := elemP h hx
  have HAT := Lib.hid (fun W' (hb : Below W.heap.size W W') => names_at_api_Toxic.calls A c x.f3 t.f0 _ W' (Kd.C_below (Kd.R_reads' hR).2.2 hb) (Kd.R_reads' hR).2.1 rfl)
  have HCK := Lib.hid (fun W' => toxic_Check.calls t.f0 t.f1 t.f2 t.f3 t.f4 t.f5 (ckT t) W' rfl)
  have hpl := place_lt (l := namesT x.f3) (s := t.f0)
  have HN : Hid (∀ W' (r : Int), Below W.heap.size W W' → CloP B b n cap xs i (x, r) W (.returned (.int .i64 r)) W') := Lib.hid (fun W' r hb => ⟨rfl, by rw [set_self hx]; exact Kd.S_below h hb, hb.mono hB⟩)
  have HP := Lib.hid (show place (x.f3.map (·.f0)) t.f0 = place (namesT x.f3) t.f0 from rfl)
  have HB0 := Lib.hid (Below.refl W.heap.size W)
  have hin : i < n := by have := (Kd.S_reads' h).1; have := (List.getElem?_eq_some_iff.1 hx).1; omega
  rw [HP.out] at HAT
  unfold setT
  by_cases hck : ckT t = 0
  · rw [if_neg (by simpa using hck)]
    rw [hck] at HCK
    by_cases hneg : place (namesT x.f3) t.f0 < 0
    · rw [if_pos hneg]
      generalize place (namesT x.f3) t.f0 = p at *
      clear hR hok hH hfr h hx HP hck
      go_enter Tryz.func53, Tryz.ntmps53
      go_wp2_with (go_at_call 39; refine (HCK.out _).mono ?_; rintro e w1 ⟨rfl, hcl⟩; have HB1 := Lib.hid hcl; have a0 := nm_cell_at hcl o0; have a3 := nm_cell_at hcl x3; clear hcl)
      go_region_held3 (fun W' => W'.cell? ⟨b, i * 4 + 3, none⟩ = some (.slice A x.f3.length c) ∧ W'.cell? ⟨bo, 0, none⟩ = some (.string t.f0) ∧ Below W.heap.size W W')
        (first
          | exact ⟨a3, a0, HB1.out.drew⟩
          | exact ⟨nm_cell_at HBQ.out x3, nm_cell_at HBQ.out o0, HBQ.out⟩
          | go_keep)
        ((go_at_call 40; obtain ⟨_, _, hq⟩ := ‹_ ∧ _ ∧ Below W.heap.size W _›; refine (HAT.out _ hq).mono ?_; rintro e w2 ⟨rfl, hcl⟩; have HBQ := Lib.hid (hq.trans (hcl.mono hq.size)); clear hcl hq))
      all_goals
        go_wp2_with fail
        go_ret
        exact HN.out _ _ HBQ.out
    · rw [if_neg hneg]
      obtain ⟨k, hk⟩ : ∃ k : Nat, place (namesT x.f3) t.f0 = (k : Int) := ⟨(place (namesT x.f3) t.f0).toNat, by omega⟩
      rw [hk] at HAT hpl ⊢
      rw [Int.toNat_natCast]
      have hkl : k < x.f3.length := by have := hpl.1; simp [namesT] at this; exact this
      obtain ⟨y, hy⟩ : ∃ y, x.f3[k]? = some y := ⟨_, List.getElem?_eq_getElem hkl⟩
      have hgd : x.f3.getD k z24 = y := by rw [List.getD_eq_getElem?_getD, hy]; rfl
      rw [hgd]
      obtain ⟨g, cc, hv, hBg, hgw, _⟩ := Kd.R_form hR (by omega)
      have hA : A = some ⟨g, 0, none⟩ := by injection hv
      subst hA
      have hgok : oki g := hR.1 g (by simp [Value.ownBlock])
      have hgb : g ≠ b := hok g hgok
      have hgo : g ≠ bo := by omega
      obtain ⟨t0, t1, t2, t3, t4, t5, tfr⟩ := tox_cells hR hy
      have f0 := tfr 0
      have f1 := tfr 1
      have f2 := tfr 2
      have f3 := tfr 3
      have f4 := tfr 4
      have f5 := tfr 5
      rw [Nat.add_zero] at f0
      have HH := Lib.hid (And.intro hR (And.intro hH (And.intro hok (And.intro hgok (And.intro h hx)))))
      have hk0 : (0 : Int) ≤ (k : Int) := Int.natCast_nonneg _
      have hk1 : (k : Int) < (x.f3.length : Int) := by omega
      have q0 : ¬ ((k : Int) < 0) := by omega
      generalize x.f3.length = ln at *
      clear hR hok hH hfr h hx HP hv hk hneg hgok hck hgd tfr
      by_cases hkind : y.f1 = t.f1
      · by_cases hup : y.f2 = t.f2
        · rw [if_neg (by simp [hkind, hup])]
          have q1 : (y.f1 != t.f1) = false := by simp [hkind]
          have q2 : (y.f2 != t.f2) = false := by simp [hup]
          have q3 : (!(y.f2 == t.f2)) = false := by simp [hup]
          have HKU := Lib.hid (And.intro hkind hup)
          clear hkind hup
          go_enter Tryz.func53, Tryz.ntmps53
          go_wp2_with (go_at_call 39; refine (HCK.out _).mono ?_; rintro e w1 ⟨rfl, hcl⟩; have HB1 := Lib.hid hcl; have a0 := nm_cell_at hcl o0; have a3 := nm_cell_at hcl x3; clear hcl)
          go_region_held3 (fun W' => W'.cell? ⟨b, i * 4 + 3, none⟩ = some (.slice (some ⟨g, 0, none⟩) ln c) ∧ W'.cell? ⟨bo, 0, none⟩ = some (.string t.f0) ∧ Below W.heap.size W W')
            (first
              | exact ⟨a3, a0, HB1.out.drew⟩
              | exact ⟨nm_cell_at HBQ.out x3, nm_cell_at HBQ.out o0, HBQ.out⟩
              | go_keep)
            ((go_at_call 40; obtain ⟨_, _, hq⟩ := ‹_ ∧ _ ∧ Below W.heap.size W _›; refine (HAT.out _ hq).mono ?_; rintro e w2 ⟨rfl, hcl⟩; have HBQ := Lib.hid (hq.trans (hcl.mono hq.size)); clear hcl hq))
          all_goals
            have z3 := nm_cell_at HBQ.out x3
            have s0 := nm_cell_at HBQ.out o0
            have s1 := nm_cell_at HBQ.out o1
            have s2 := nm_cell_at HBQ.out o2
            have s3 := nm_cell_at HBQ.out o3
            have s4 := nm_cell_at HBQ.out o4
            have s5 := nm_cell_at HBQ.out o5
            have u0 := nm_cell_at HBQ.out t0
            have u1 := nm_cell_at HBQ.out t1
            have u2 := nm_cell_at HBQ.out t2
            have u3 := nm_cell_at HBQ.out t3
            have u4 := nm_cell_at HBQ.out t4
            have u5 := nm_cell_at HBQ.out t5
            have v0 := (HBQ.out.frozen (p := ⟨g, k * 6, none⟩) hgw).trans f0
            have v1 := (HBQ.out.frozen (p := ⟨g, k * 6 + 1, none⟩) hgw).trans f1
            have v2 := (HBQ.out.frozen (p := ⟨g, k * 6 + 2, none⟩) hgw).trans f2
            have v3 := (HBQ.out.frozen (p := ⟨g, k * 6 + 3, none⟩) hgw).trans f3
            have v4 := (HBQ.out.frozen (p := ⟨g, k * 6 + 4, none⟩) hgw).trans f4
            have v5 := (HBQ.out.frozen (p := ⟨g, k * 6 + 5, none⟩) hgw).trans f5
            go_wp2_with fail
            go_quiet (fail)
            go_wp2_with fail
            go_region
            all_goals go_wp2_with fail
            all_goals
              go_ret
              obtain ⟨hR, hH, hok, hgok, hS, hx⟩ := HH.out
              have hf := fun m => set_fin (c0 := .nilIface) (c1 := .nilIface) (c2 := .nilIface) (k := k) t hB HBQ.out hBg hR hH hgok hkl m
              exact ⟨rfl, (hf _).1, (hf _).2⟩
        · rw [if_pos (.inr hup)]
          have q1 : (y.f1 != t.f1) = false := by simp [hkind]
          have q2 : (y.f2 != t.f2) = true := by simp [hup]
          have q3 : (!(y.f2 == t.f2)) = true := by simp [hup]
          have HKU := Lib.hid (And.intro hkind hup)
          clear hkind hup
          go_enter Tryz.func53, Tryz.ntmps53
          go_wp2_with (go_at_call 39; refine (HCK.out _).mono ?_; rintro e w1 ⟨rfl, hcl⟩; have HB1 := Lib.hid hcl; have a0 := nm_cell_at hcl o0; have a3 := nm_cell_at hcl x3; clear hcl)
          go_region_held3 (fun W' => W'.cell? ⟨b, i * 4 + 3, none⟩ = some (.slice (some ⟨g, 0, none⟩) ln c) ∧ W'.cell? ⟨bo, 0, none⟩ = some (.string t.f0) ∧ Below W.heap.size W W')
            (first
              | exact ⟨a3, a0, HB1.out.drew⟩
              | exact ⟨nm_cell_at HBQ.out x3, nm_cell_at HBQ.out o0, HBQ.out⟩
              | go_keep)
            ((go_at_call 40; obtain ⟨_, _, hq⟩ := ‹_ ∧ _ ∧ Below W.heap.size W _›; refine (HAT.out _ hq).mono ?_; rintro e w2 ⟨rfl, hcl⟩; have HBQ := Lib.hid (hq.trans (hcl.mono hq.size)); clear hcl hq))
          all_goals
            have z3 := nm_cell_at HBQ.out x3
            have s0 := nm_cell_at HBQ.out o0
            have s1 := nm_cell_at HBQ.out o1
            have s2 := nm_cell_at HBQ.out o2
            have s3 := nm_cell_at HBQ.out o3
            have s4 := nm_cell_at HBQ.out o4
            have s5 := nm_cell_at HBQ.out o5
            have u0 := nm_cell_at HBQ.out t0
            have u1 := nm_cell_at HBQ.out t1
            have u2 := nm_cell_at HBQ.out t2
            have u3 := nm_cell_at HBQ.out t3
            have u4 := nm_cell_at HBQ.out t4
            have u5 := nm_cell_at HBQ.out t5
            have v0 := (HBQ.out.frozen (p := ⟨g, k * 6, none⟩) hgw).trans f0
            have v1 := (HBQ.out.frozen (p := ⟨g, k * 6 + 1, none⟩) hgw).trans f1
            have v2 := (HBQ.out.frozen (p := ⟨g, k * 6 + 2, none⟩) hgw).trans f2
            have v3 := (HBQ.out.frozen (p := ⟨g, k * 6 + 3, none⟩) hgw).trans f3
            have v4 := (HBQ.out.frozen (p := ⟨g, k * 6 + 4, none⟩) hgw).trans f4
            have v5 := (HBQ.out.frozen (p := ⟨g, k * 6 + 5, none⟩) hgw).trans f5
            go_wp2_with fail
            go_quiet (fail)
            go_wp2_with fail
            go_ret
            exact HN.out _ _ (zqb HBQ.out _)
      · rw [if_pos (.inl hkind)]
        have q1 : (y.f1 != t.f1) = true := by simp [hkind]
        have q3 : (!(y.f1 == t.f1)) = true := by simp [hkind]
        have HKU := Lib.hid hkind
        clear hkind
        go_enter Tryz.func53, Tryz.ntmps53
        go_wp2_with (go_at_call 39; refine (HCK.out _).mono ?_; rintro e w1 ⟨rfl, hcl⟩; have HB1 := Lib.hid hcl; have a0 := nm_cell_at hcl o0; have a3 := nm_cell_at hcl x3; clear hcl)
        go_region_held3 (fun W' => W'.cell? ⟨b, i * 4 + 3, none⟩ = some (.slice (some ⟨g, 0, none⟩) ln c) ∧ W'.cell? ⟨bo, 0, none⟩ = some (.string t.f0) ∧ Below W.heap.size W W')
          (first
            | exact ⟨a3, a0, HB1.out.drew⟩
            | exact ⟨nm_cell_at HBQ.out x3, nm_cell_at HBQ.out o0, HBQ.out⟩
            | go_keep)
          ((go_at_call 40; obtain ⟨_, _, hq⟩ := ‹_ ∧ _ ∧ Below W.heap.size W _›; refine (HAT.out _ hq).mono ?_; rintro e w2 ⟨rfl, hcl⟩; have HBQ := Lib.hid (hq.trans (hcl.mono hq.size)); clear hcl hq))
        all_goals
          have z3 := nm_cell_at HBQ.out x3
          have s0 := nm_cell_at HBQ.out o0
          have s1 := nm_cell_at HBQ.out o1
          have s2 := nm_cell_at HBQ.out o2
          have s3 := nm_cell_at HBQ.out o3
          have s4 := nm_cell_at HBQ.out o4
          have s5 := nm_cell_at HBQ.out o5
          have u0 := nm_cell_at HBQ.out t0
          have u1 := nm_cell_at HBQ.out t1
          have u2 := nm_cell_at HBQ.out t2
          have u3 := nm_cell_at HBQ.out t3
          have u4 := nm_cell_at HBQ.out t4
          have u5 := nm_cell_at HBQ.out t5
          have v0 := (HBQ.out.frozen (p := ⟨g, k * 6, none⟩) hgw).trans f0
          have v1 := (HBQ.out.frozen (p := ⟨g, k * 6 + 1, none⟩) hgw).trans f1
          have v2 := (HBQ.out.frozen (p := ⟨g, k * 6 + 2, none⟩) hgw).trans f2
          have v3 := (HBQ.out.frozen (p := ⟨g, k * 6 + 3, none⟩) hgw).trans f3
          have v4 := (HBQ.out.frozen (p := ⟨g, k * 6 + 4, none⟩) hgw).trans f4
          have v5 := (HBQ.out.frozen (p := ⟨g, k * 6 + 5, none⟩) hgw).trans f5
          go_wp2_with fail
          go_quiet (fail)
          go_wp2_with fail
          go_ret
          exact HN.out _ _ (zqb HBQ.out _)
  · rw [if_pos (by simpa using hck)]
    have q : ((ckT t) != 0) = true := by simpa using hck
    generalize ckT t = e at *
    generalize place (namesT x.f3) t.f0 = p at *
    clear hR hok hH hfr h hx HP hck
    go_enter Tryz.func53, Tryz.ntmps53
    go_wp2_with (go_at_call 39; refine (HCK.out _).mono ?_; rintro e1 w1 ⟨rfl, hcl⟩; have HB1 := Lib.hid hcl; have a0 := nm_cell_at hcl o0; have a3 := nm_cell_at hcl x3; clear hcl)
    go_region_held3 (fun W' => W'.cell? ⟨b, i * 4 + 3, none⟩ = some (.slice A x.f3.length c) ∧ W'.cell? ⟨bo, 0, none⟩ = some (.string t.f0) ∧ Below W.heap.size W W')
      (first
        | exact ⟨a3, a0, HB1.out.drew⟩
        | exact ⟨nm_cell_at HBQ.out x3, nm_cell_at HBQ.out o0, HBQ.out⟩
        | go_keep)
      ((go_at_call 40; obtain ⟨_, _, hq⟩ := ‹_ ∧ _ ∧ Below W.heap.size W _›; refine (HAT.out _ hq).mono ?_; rintro e1 w2 ⟨rfl, hcl⟩; have HBQ := Lib.hid (hq.trans (hcl.mono hq.size)); clear hcl hq))
    all_goals
      go_wp2_with fail
      go_ret
      exact HN.out _ _ HBQ.out
end Go.Proofs.YtlglbpjccpdloaaGreat.Ext
set_option linter.unusedVariables false
set_option linter.unusedSimpArgs false
namespace Go.Proofs.YtlglbpjccpdloaaGreat.Ext
open Go.RowKit Go.Shelf Go.Proofs.YtlglbpjccpdloaaGreat.PNamA Go.Proofs.YtlglbpjccpdloaaGreat.Tox Go.Proofs.YtlglbpjccpdloaaGreat.ToxZ Go.Proofs.YtlglbpjccpdloaaGreatW.PrintWords Go.Proofs.YtlglbpjccpdloaaGreatW.PrintLast
def names_AddToxic.f (l : List S39) (s : ByteArray) (t0 : ByteArray) (t1 : Int) (t2 : Bool) (t3 t4 t5 : Int) : Option (List S39 × Int) := if l.length ≤ 4611686018427387904 then some (changeOf (addT ⟨t0, t1, t2, t3, t4, t5⟩) l s) else none
set_option maxRecDepth 100000 in
theorem names_AddToxic.calls (A0 : Option Addr) (c0 : Nat) (l0 : List S39) (s : ByteArray) (t0 : ByteArray) (t1 : Int) (t2 : Bool) (t3 t4 t5 : Int) (r1 : List S39) (r2 : Int) (w : World) (hr0 : Kd.C k39 w A0 l0.length l0) (hc0 : l0.length ≤ c0) (h : names_AddToxic.f l0 s t0 t1 t2 t3 t4 t5 = some (r1, r2)) :
    Calls Tryz.prog 16 #[.slice A0 l0.length c0, .string s, .agg #[.string t0, .int .i64 t1, .bool t2, .int .i64 t3, .int .i64 t4, .int .i64 t5]] w fun e w' => ∃ v0_ : Value, e = .returned (.tuple #[v0_, .int .i64 r2]) ∧ Kd.S k39 39 w' w.heap.size (fun _ => True) v0_ r1 ∧ Below w.heap.size w w' := by
  unfold names_AddToxic.f at h
  split at h
  · rename_i hm
    have hres := Option.some.inj h
    have hb : Below w.heap.size w (w.alloc (.cells #[.string t0, .int .i64 t1, .bool t2, .int .i64 t3, .int .i64 t4, .int .i64 t5] 24)) := (Below.refl _ w).alloc (Nat.le_refl _) _
    have HC := Lib.hid (change_any 38 #[.pointer (some ⟨w.heap.size, 0, none⟩)] (addT ⟨t0, t1, t2, t3, t4, t5⟩) A0 c0 l0 s (w.alloc (.cells #[.string t0, .int .i64 t1, .bool t2, .int .i64 t3, .int .i64 t4, .int .i64 t5] 24)) (Kd.C_below hr0 hb) hc0 hm (enters_of Tryz.func38 (by kernel_rfl) rfl) (by
      intro W b n cap i xs x hbW hS hx h8
      have o0 := nm_cell_at hbW (nm_box w #[.string t0, .int .i64 t1, .bool t2, .int .i64 t3, .int .i64 t4, .int .i64 t5] 24 0)
      have o1 := nm_cell_at hbW (nm_box w #[.string t0, .int .i64 t1, .bool t2, .int .i64 t3, .int .i64 t4, .int .i64 t5] 24 1)
      have o2 := nm_cell_at hbW (nm_box w #[.string t0, .int .i64 t1, .bool t2, .int .i64 t3, .int .i64 t4, .int .i64 t5] 24 2)
      have o3 := nm_cell_at hbW (nm_box w #[.string t0, .int .i64 t1, .bool t2, .int .i64 t3, .int .i64 t4, .int .i64 t5] 24 3)
      have o4 := nm_cell_at hbW (nm_box w #[.string t0, .int .i64 t1, .bool t2, .int .i64 t3, .int .i64 t4, .int .i64 t5] 24 4)
      have o5 := nm_cell_at hbW (nm_box w #[.string t0, .int .i64 t1, .bool t2, .int .i64 t3, .int .i64 t4, .int .i64 t5] 24 5)
      exact addtoxic_clo ⟨t0, t1, t2, t3, t4, t5⟩ hbW.size hS hx h8 o0 o1 o2 o3 o4 o5))
    have HB := Lib.hid hb
    rw [hres] at HC
    generalize l0.length = n at *
    clear hb hres h hr0 hc0
    go_enter Tryz.func16, Tryz.ntmps16
    go_wp2_with (go_at_call 37; refine HC.out.mono ?_; rintro e w2 ⟨v, rfl, hS, hb2⟩; obtain ⟨A, c, rfl⟩ := Kd.S_slice hS; have HS := Lib.hid hS; have HB2 := Lib.hid hb2; clear hS hb2)
    go_ret2
    exact ⟨_, rfl, Kd.S_lower HS.out (by simp), HB.out.trans (HB2.out.mono HB.out.size)⟩
  · cases h
def names_SetToxic.f (l : List S39) (s : ByteArray) (t0 : ByteArray) (t1 : Int) (t2 : Bool) (t3 t4 t5 : Int) : Option (List S39 × Int) := if l.length ≤ 4611686018427387904 then some (changeOf (setT ⟨t0, t1, t2, t3, t4, t5⟩) l s) else none
set_option maxRecDepth 100000 in
theorem names_SetToxic.calls (A0 : Option Addr) (c0 : Nat) (l0 : List S39) (s : ByteArray) (t0 : ByteArray) (t1 : Int) (t2 : Bool) (t3 t4 t5 : Int) (r1 : List S39) (r2 : Int) (w : World) (hr0 : Kd.C k39 w A0 l0.length l0) (hc0 : l0.length ≤ c0) (h : names_SetToxic.f l0 s t0 t1 t2 t3 t4 t5 = some (r1, r2)) :
    Calls Tryz.prog 23 #[.slice A0 l0.length c0, .string s, .agg #[.string t0, .int .i64 t1, .bool t2, .int .i64 t3, .int .i64 t4, .int .i64 t5]] w fun e w' => ∃ v0_ : Value, e = .returned (.tuple #[v0_, .int .i64 r2]) ∧ Kd.S k39 39 w' w.heap.size (fun _ => True) v0_ r1 ∧ Below w.heap.size w w' := by
  unfold names_SetToxic.f at h
  split at h
  · rename_i hm
    have hres := Option.some.inj h
    have hb : Below w.heap.size w (w.alloc (.cells #[.string t0, .int .i64 t1, .bool t2, .int .i64 t3, .int .i64 t4, .int .i64 t5] 24)) := (Below.refl _ w).alloc (Nat.le_refl _) _
    have HC := Lib.hid (change_any 53 #[.pointer (some ⟨w.heap.size, 0, none⟩)] (setT ⟨t0, t1, t2, t3, t4, t5⟩) A0 c0 l0 s (w.alloc (.cells #[.string t0, .int .i64 t1, .bool t2, .int .i64 t3, .int .i64 t4, .int .i64 t5] 24)) (Kd.C_below hr0 hb) hc0 hm (enters_of Tryz.func53 (by kernel_rfl) rfl) (by
      intro W b n cap i xs x hbW hS hx h8
      have o0 := nm_cell_at hbW (nm_box w #[.string t0, .int .i64 t1, .bool t2, .int .i64 t3, .int .i64 t4, .int .i64 t5] 24 0)
      have o1 := nm_cell_at hbW (nm_box w #[.string t0, .int .i64 t1, .bool t2, .int .i64 t3, .int .i64 t4, .int .i64 t5] 24 1)
      have o2 := nm_cell_at hbW (nm_box w #[.string t0, .int .i64 t1, .bool t2, .int .i64 t3, .int .i64 t4, .int .i64 t5] 24 2)
      have o3 := nm_cell_at hbW (nm_box w #[.string t0, .int .i64 t1, .bool t2, .int .i64 t3, .int .i64 t4, .int .i64 t5] 24 3)
      have o4 := nm_cell_at hbW (nm_box w #[.string t0, .int .i64 t1, .bool t2, .int .i64 t3, .int .i64 t4, .int .i64 t5] 24 4)
      have o5 := nm_cell_at hbW (nm_box w #[.string t0, .int .i64 t1, .bool t2, .int .i64 t3, .int .i64 t4, .int .i64 t5] 24 5)
      exact settoxic_clo ⟨t0, t1, t2, t3, t4, t5⟩ hbW.size hS hx h8 o0 o1 o2 o3 o4 o5 (by simp)))
    have HB := Lib.hid hb
    rw [hres] at HC
    generalize l0.length = n at *
    clear hb hres h hr0 hc0
    go_enter Tryz.func23, Tryz.ntmps23
    go_wp2_with (go_at_call 37; refine HC.out.mono ?_; rintro e w2 ⟨v, rfl, hS, hb2⟩; obtain ⟨A, c, rfl⟩ := Kd.S_slice hS; have HS := Lib.hid hS; have HB2 := Lib.hid hb2; clear hS hb2)
    go_ret2
    exact ⟨_, rfl, Kd.S_lower HS.out (by simp), HB.out.trans (HB2.out.mono HB.out.size)⟩
  · cases h
def names_DropToxic.f (l : List S39) (s : ByteArray) (t : ByteArray) : Option (List S39 × Int) := if l.length ≤ 4611686018427387904 then some (changeOf (dropT t) l s) else none
set_option maxRecDepth 100000 in
theorem names_DropToxic.calls (A0 : Option Addr) (c0 : Nat) (l0 : List S39) (s : ByteArray) (t : ByteArray) (r1 : List S39) (r2 : Int) (w : World) (hr0 : Kd.C k39 w A0 l0.length l0) (hc0 : l0.length ≤ c0) (h : names_DropToxic.f l0 s t = some (r1, r2)) :
    Calls Tryz.prog 22 #[.slice A0 l0.length c0, .string s, .string t] w fun e w' => ∃ v0_ : Value, e = .returned (.tuple #[v0_, .int .i64 r2]) ∧ Kd.S k39 39 w' w.heap.size (fun _ => True) v0_ r1 ∧ Below w.heap.size w w' := by
  unfold names_DropToxic.f at h
  split at h
  · rename_i hm
    have hres := Option.some.inj h
    have hb : Below w.heap.size w (w.alloc (.cells #[.string t] 9)) := (Below.refl _ w).alloc (Nat.le_refl _) _
    have HC := Lib.hid (change_any 51 #[.pointer (some ⟨w.heap.size, 0, none⟩)] (dropT t) A0 c0 l0 s (w.alloc (.cells #[.string t] 9)) (Kd.C_below hr0 hb) hc0 hm (enters_of Tryz.func51 (by kernel_rfl) rfl) (by
      intro W b n cap i xs x hbW hS hx h8
      exact droptoxic_clo t hbW.size hS hx (nm_cell_at hbW (nm_box w #[.string t] 9 0)) h8))
    have HB := Lib.hid hb
    rw [hres] at HC
    generalize l0.length = n at *
    clear hb hres h hr0 hc0
    go_enter Tryz.func22, Tryz.ntmps22
    go_wp2_with (go_at_call 37; refine HC.out.mono ?_; rintro e w2 ⟨v, rfl, hS, hb2⟩; obtain ⟨A, c, rfl⟩ := Kd.S_slice hS; have HS := Lib.hid hS; have HB2 := Lib.hid hb2; clear hS hb2)
    go_ret2
    exact ⟨_, rfl, Kd.S_lower HS.out (by simp), HB.out.trans (HB2.out.mono HB.out.size)⟩
  · cases h
def names_Switch.f (l : List S39) (s : ByteArray) (on : Bool) : Option (List S39 × Int) := if l.length ≤ 4611686018427387904 then some (changeOf (onT on) l s) else none
set_option maxRecDepth 100000 in
theorem names_Switch.calls (A0 : Option Addr) (c0 : Nat) (l0 : List S39) (s : ByteArray) (on : Bool) (r1 : List S39) (r2 : Int) (w : World) (hr0 : Kd.C k39 w A0 l0.length l0) (hc0 : l0.length ≤ c0) (h : names_Switch.f l0 s on = some (r1, r2)) :
    Calls Tryz.prog 21 #[.slice A0 l0.length c0, .string s, .bool on] w fun e w' => ∃ v0_ : Value, e = .returned (.tuple #[v0_, .int .i64 r2]) ∧ Kd.S k39 39 w' w.heap.size (fun _ => True) v0_ r1 ∧ Below w.heap.size w w' := by
  unfold names_Switch.f at h
  split at h
  · rename_i hm
    have hres := Option.some.inj h
    have hb : Below w.heap.size w (w.alloc (.cells #[.bool on] 4)) := (Below.refl _ w).alloc (Nat.le_refl _) _
    have HC := Lib.hid (change_any 50 #[.pointer (some ⟨w.heap.size, 0, none⟩)] (onT on) A0 c0 l0 s (w.alloc (.cells #[.bool on] 4)) (Kd.C_below hr0 hb) hc0 hm (enters_of Tryz.func50 (by kernel_rfl) rfl) (by
      intro W b n cap i xs x hbW hS hx h8
      exact switch_clo on hS hx (nm_cell_at hbW (nm_box w #[.bool on] 4 0))))
    have HB := Lib.hid hb
    rw [hres] at HC
    generalize l0.length = n at *
    clear hb hres h hr0 hc0
    go_enter Tryz.func21, Tryz.ntmps21
    go_wp2_with (go_at_call 37; refine HC.out.mono ?_; rintro e w2 ⟨v, rfl, hS, hb2⟩; obtain ⟨A, c, rfl⟩ := Kd.S_slice hS; have HS := Lib.hid hS; have HB2 := Lib.hid hb2; clear hS hb2)
    go_ret2
    exact ⟨_, rfl, Kd.S_lower HS.out (by simp), HB.out.trans (HB2.out.mono HB.out.size)⟩
  · cases h
end Go.Proofs.YtlglbpjccpdloaaGreat.Ext
set_option linter.unusedVariables false
set_option linter.unusedSimpArgs false
namespace Go.Proofs.YtlglbpjccpdloaaGreat.Ext
open Go.RowKit Go.Shelf Go.Proofs.YtlglbpjccpdloaaGreat.PNamA Go.Proofs.YtlglbpjccpdloaaGreat.Tox Go.Proofs.YtlglbpjccpdloaaGreat.ToxZ Go.Proofs.YtlglbpjccpdloaaGreatW.PrintWords Go.Proofs.YtlglbpjccpdloaaGreatW.PrintLast
def dropOf (l : List S39) (s : ByteArray) : List S39 × Int :=
  if rightB l then (if place (namesP l) s < 0 then (l, 142) else (l.eraseIdx (place (namesP l) s).toNat, 0)) else ([], 1)
def names_Drop.f (l : List S39) (s : ByteArray) : Option (List S39 × Int) := if l.length ≤ 4611686018427387904 then some (dropOf l s) else none
theorem change_id (l : List S39) (s : ByteArray) : changeOf idT l s = if rightB l then (if place (namesP l) s < 0 then (l, 142) else (l, 0)) else ([], 1) := by
  unfold changeOf
  split
  · split
    · rfl
    · rename_i h1 h2
      have hpl := place_lt (l := namesP l) (s := s)
      obtain ⟨k, hk⟩ : ∃ k : Nat, place (namesP l) s = (k : Int) := ⟨(place (namesP l) s).toNat, by omega⟩
      rw [hk] at hpl ⊢
      have hkl : k < l.length := by have := hpl.1; simp [namesP] at this; exact this
      have hx : l[k]? = some l[k] := List.getElem?_eq_getElem hkl
      rw [Int.toNat_natCast, List.getD_eq_getElem?_getD, hx]
      simp only [idT, Option.getD_some]
      rw [set_self hx]
  · rfl
set_option maxRecDepth 100000 in
set_option maxHeartbeats 1000000 in
theorem names_Drop.calls (A0 : Option Addr) (c0 : Nat) (l0 : List S39) (s : ByteArray) (r1 : List S39) (r2 : Int) (w : World) (hr0 : Kd.C k39 w A0 l0.length l0) (hc0 : l0.length ≤ c0) (h : names_Drop.f l0 s = some (r1, r2)) :
    Calls Tryz.prog 19 #[.slice A0 l0.length c0, .string s] w fun e w' => ∃ v0_ : Value, e = .returned (.tuple #[v0_, .int .i64 r2]) ∧ Kd.S k39 39 w' w.heap.size (fun _ => True) v0_ r1 ∧ Below w.heap.size w w' := by
  unfold names_Drop.f at h
  split at h
  · rename_i hm
    have hres := Option.some.inj h
    have hb : Below w.heap.size w (w.alloc (.cells #[.string s] 9)) := (Below.refl _ w).alloc (Nat.le_refl _) _
    have hcell := nm_box w #[.string s] 9 0
    have HC := Lib.hid (change_any 44 #[] idT A0 c0 l0 s (w.alloc (.cells #[.string s] 9)) (Kd.C_below hr0 hb) hc0 hm (enters_of Tryz.func44 (by kernel_rfl) rfl) (by
      intro W b n cap i xs x hbW hS hx h8
      exact id_clo hS hx))
    have HB := Lib.hid hb
    rw [change_id] at HC
    unfold dropOf at hres
    by_cases hright : rightB l0 = true
    · rw [if_pos hright] at HC hres
      by_cases hneg : place (namesP l0) s < 0
      · rw [if_pos hneg] at HC hres
        obtain ⟨rfl, rfl⟩ := Prod.mk.inj hres
        generalize hn : l0.length = n at *
        clear hb hres h hr0 hc0 hn hright hneg
        go_enter Tryz.func19, Tryz.ntmps19
        go_wp2_with (go_at_call 37; refine HC.out.mono ?_; rintro e w2 ⟨v, rfl, hS, hb2⟩; obtain ⟨A, c, rfl⟩ := Kd.S_slice hS; have HS := Lib.hid hS; have HB2 := Lib.hid hb2; clear hS hb2)
        go_ret2
        exact ⟨_, rfl, Kd.S_lower HS.out (by simp), HB.out.trans (HB2.out.mono HB.out.size)⟩
      · rw [if_neg hneg] at HC hres
        obtain ⟨k, hk⟩ : ∃ k : Nat, place (namesP l0) s = (k : Int) := ⟨(place (namesP l0) s).toNat, by omega⟩
        rw [hk, Int.toNat_natCast] at hres
        obtain ⟨rfl, rfl⟩ := Prod.mk.inj hres
        have hpl := place_lt (l := namesP l0) (s := s)
        rw [hk] at hpl
        have hkl : k < l0.length := by have := hpl.1; simp [namesP] at this; exact this
        obtain ⟨m, hm1⟩ : ∃ m, l0.length = m + 1 := ⟨l0.length - 1, by omega⟩
        have hm2 : m ≤ 1000000 := by have := (right_len hright).1; omega
        have HDEL := Lib.hid (fun W B b cap hB hS hc hbn => @delf_calls W B b m cap k w.heap.size l0 s hB hS hk (fun j x hj hx => only_one hright hk j x hj hx) hc hbn hm2)
        have HM := Lib.hid hm1
        have HCELL := Lib.hid hcell
        rw [hm1] at HC hr0 hc0 ⊢
        clear hb h hr0 hc0 hright hneg hk hpl hkl hm1 hcell hres
        go_enter Tryz.func19, Tryz.ntmps19
        go_wp2_with (first
          | (go_at_call 37; refine HC.out.mono ?_; rintro e w2 ⟨v, rfl, hS, hb2⟩; obtain ⟨b, c, hv, hbb, _⟩ := Kd.S_form hS (by have := HM.out; simp only; omega); simp only at hv; rw [HM.out] at hv; subst hv; have HS := Lib.hid hS; have HB2 := Lib.hid hb2; clear hS hb2)
          | (go_at_call 45; refine (HDEL.out _ (w.heap.size + 1) b c (by have := HB2.out.size; simp at this; exact this) (by have := HS.out; simp only [HM.out, World.size_alloc] at this; simpa using this) (nm_cell_at HB2.out HCELL.out) (by omega)).mono ?_; rintro e w3 ⟨rfl, hS3, hb3⟩; have HS3 := Lib.hid hS3; have HB3 := Lib.hid hb3; clear hS3 hb3)
          | fail)
        go_ret2
        exact ⟨_, rfl, Kd.S_lower HS3.out (by omega), (HB.out.trans (HB2.out.mono HB.out.size)).trans (HB3.out.mono (by omega))⟩
    · rw [if_neg hright] at HC hres
      obtain ⟨rfl, rfl⟩ := Prod.mk.inj hres
      generalize l0.length = n at *
      clear hb hres h hr0 hc0 hright
      go_enter Tryz.func19, Tryz.ntmps19
      go_wp2_with (go_at_call 37; refine HC.out.mono ?_; rintro e w2 ⟨v, rfl, hS, hb2⟩; obtain ⟨A, c, rfl⟩ := Kd.S_slice hS; have HS := Lib.hid hS; have HB2 := Lib.hid hb2; clear hS hb2)
      go_ret2
      exact ⟨_, rfl, Kd.S_lower HS.out (by simp), HB.out.trans (HB2.out.mono HB.out.size)⟩
  · cases h
end Go.Proofs.YtlglbpjccpdloaaGreat.Ext
namespace Go.Proofs.YtlglbpjccpdloaaGreat.PNamA
open Go.Proofs.YtlglbpjccpdloaaGreat.Ext Go.Proofs.YtlglbpjccpdloaaGreat.ToxZ Go.RowKit Go.Proofs.YtlglbpjccpdloaaGreatW.PrintWords Go.Proofs.YtlglbpjccpdloaaGreatW.PrintLast Go.Proofs.YtlglbpjccpdloaaGreatW.PrintMore
attribute [local go_sem] max2_int min2_int max_two min_two max_three min_three max_four min_four   -- for this text's walks alone
set_option linter.unusedVariables false
set_option linter.unusedSimpArgs false
def names_Reset.l0 : Nat → List (S39) → Int → Int → Option ((List (S39)))
 | 0, _, _, _ => none
 | k + 1, x3, x11, x12 => if x12 < x11 then (if 0 ≤ x12 then (if x12 < (x3.length : Int) then ((some (x3.set (x12 : Int).toNat (⟨(zqe x3 x12).f0, true, (zqe x3 x12).f2, (zqe x3 x12).f3⟩ : S39) : List (S39))).bind fun y171 => (names_Reset.l0 k (y171.set (x12 : Int).toNat (⟨(zqe y171 x12).f0, (zqe y171 x12).f1, (zqe y171 x12).f2, ([] : List (S24))⟩ : S39)) x11 (wrap64 (x12 + 1)))) else (none)) else (none)) else (some x3)
def names_Reset.f (k : Nat) (l0 : List (S39)) : Option ((List (S39))) := (names_Right.f k l0).bind fun t167 => (if t167 = true then ((names_own.f l0).bind fun t168 => (names_Reset.l0 k t168 (t168.length : Int) 0)) else (some ([] : List (S39))))
theorem names_Reset.mono_l : ∀ k, (∀ y0 y1 y2, LeO (names_Reset.l0 k y0 y1 y2) (names_Reset.l0 (k + 1) y0 y1 y2))
 | 0 => fun _ _ _ r h => by simp [names_Reset.l0] at h
 | k + 1 => by
  have ih0 := names_Reset.mono_l k
  ·intro y0 y1 y2
   unfold names_Reset.l0
   repeat' first
   | (with_reducible exact ih0 _ _ _)
   | (with_reducible exact names_Right.mono _ _)
   | (with_reducible exact LeO.refl _)
   | (with_reducible exact LeO.none _)
   | (with_reducible refine LeO.ite ?_ ?_)
   | (with_reducible refine LeO.bind ?_ (fun _ => ?_))
   | exact ih0 _ _ _
   | exact names_Right.mono _ _
   | exact LeO.none _
   | refine LeO.ite ?_ ?_
   | refine LeO.bind ?_ (fun _ => ?_)
theorem names_Reset.mono : ∀ a0 k, LeO (names_Reset.f k a0) (names_Reset.f (k + 1) a0) := by
 intro a0 k
 have ih0 := names_Reset.mono_l k
 unfold names_Reset.f
 repeat' first
   | (with_reducible exact ih0 _ _ _)
   | (with_reducible exact names_Right.mono _ _)
   | (with_reducible exact LeO.refl _)
   | (with_reducible exact LeO.none _)
   | (with_reducible refine LeO.ite ?_ ?_)
   | (with_reducible refine LeO.bind ?_ (fun _ => ?_))
   | exact ih0 _ _ _
   | exact names_Right.mono _ _
   | exact LeO.none _
   | refine LeO.ite ?_ ?_
   | refine LeO.bind ?_ (fun _ => ?_)
set_option maxHeartbeats 8000000 in
set_option maxRecDepth 100000 in
theorem names_Reset.calls (k : Nat) (A0 : Option Addr) (c0 : Nat) (l0 : List (S39)) (r : List (S39)) (w : World) (hr0 : Kd.C k39 w A0 l0.length l0) (hc0 : l0.length ≤ c0) (h : names_Reset.f k l0 = some r) :
  Calls Tryz.prog 24 #[.slice A0 l0.length c0] w fun e w' => ∃ v0_ : Value, e = .returned (v0_) ∧ Kd.S k39 39 w' w.heap.size (fun _ => True) v0_ r ∧ Below w.heap.size w w' := by
 have HR0 := zqd.mk hr0
 have HC0 := zqd.mk hc0
 clear hr0 hc0
 have HB := zqd.mk (Below.refl w.heap.size w)
 have H : ((names_Right.f k l0).bind fun t167 => (if t167 = true then ((names_own.f l0).bind fun t168 => (names_Reset.l0 k t168 (t168.length : Int) 0)) else (some ([] : List (S39))))) = some r := h
 clear h
 replace H := Option.bind_eq_some_iff.mp H
 obtain ⟨t167, A20, H⟩ := H
 replace H : (if t167 = true then ((names_own.f l0).bind fun t168 => (names_Reset.l0 k t168 (t168.length : Int) 0)) else (some ([] : List (S39)))) = some r := H
 have A2 := zqd.mk A20
 clear A20
 by_cases c3 : t167 = true
 ·subst c3
  have H1 : ((names_own.f l0).bind fun t168 => (names_Reset.l0 k t168 (t168.length : Int) 0)) = some r := by rw [if_pos rfl] at H; exact H
  clear H
  have H := H1
  clear H1
  replace H := Option.bind_eq_some_iff.mp H
  obtain ⟨t168, A40, H⟩ := H
  replace H : (names_Reset.l0 k t168 (t168.length : Int) 0) = some r := H
  have A4 := zqd.mk A40
  clear A40
  have H' := zqd.mk H
  clear H
  go_enter Tryz.func24, Tryz.ntmps24
  go_wp2_with (first | ((with_reducible refine gate_callee (f := 13) rfl ?_); refine goesL_ (some 6) rfl rfl Tryz.func13 (by kernel_rfl) rfl #[.slice A0 l0.length c0] rfl (by (try simp only [List.map_toArray, List.map_cons, List.map_nil]); first | done | rfl | (simp only [List.length_drop, List.length_take]; rfl)) ?_; (with_reducible refine (names_Right.calls k _ _ l0 true _ ?side1 ?side2 A2.out).mono ?_); (case side1 => repeat (first | exact HR0.out | (with_reducible refine Kd.C_alloc ?_ _) | (with_reducible refine Kd.C_drewN ?_ _) | (with_reducible refine Kd.C_drew ?_))); (case side2 => exact HC0.out); rintro e w5 ⟨rfl, hb⟩; refine ⟨_, rfl, ?_⟩; have n0_ := zqd.mk (below_step (by repeat (first | (with_reducible first | exact HB.out | apply zqj | apply zqb | apply zqf) | exact HB.out)) hb); clear HB; have HB := n0_; clear n0_; (try clear hb); (try clear hb2); (try clear hk); (try clear hi)) | ((with_reducible refine gate_callee (f := 30) rfl ?_); refine goesL_ (some 9) rfl rfl Tryz.func30 (by kernel_rfl) rfl #[.slice A0 l0.length c0] rfl (by (try simp only [List.map_toArray, List.map_cons, List.map_nil]); first | done | rfl | (simp only [List.length_drop, List.length_take]; rfl)) ?_; (with_reducible refine (names_own.calls _ _ l0 t168 _ ?side1 ?side2 A4.out).mono ?_); (case side1 => repeat (first | exact (Kd.C_below HR0.out HB.out) | (with_reducible refine Kd.C_alloc ?_ _) | (with_reducible refine Kd.C_drewN ?_ _) | (with_reducible refine Kd.C_drew ?_))); (case side2 => exact HC0.out); rintro e w6 ⟨v169, rfl, ho0, hb⟩; refine ⟨_, rfl, ?_⟩; have n0_ := zqd.mk (Kd.S_lower ho0 (below_size (by repeat (first | (with_reducible first | exact HB.out | apply zqj | apply zqb | apply zqf) | exact HB.out)))); have n1_ := zqd.mk (below_step (by repeat (first | (with_reducible first | exact HB.out | apply zqj | apply zqb | apply zqf) | exact HB.out)) hb); clear HB; have HO170 := n0_; have HB := n1_; clear n0_ n1_; (try clear hb); (try clear hb2); (try clear hk); (try clear hi); (try clear ho0); obtain ⟨Ao7, co7, eo7⟩ := Kd.S_slice HO170.out; subst eo7))
  go_loopg [12] k (fun kq v12 w' => ∃ (x3_1 : List (S39)) (x12_1 : Int), v12 = .int .i64 x12_1 ∧ zqd (names_Reset.l0 kq x3_1 (t168.length : Int) x12_1 = some r) ∧ zqd (kq ≤ k) ∧ zqd (Kd.S k39 39 w' w.heap.size (fun _ => True) (.slice Ao7 t168.length co7) x3_1) ∧ zqd (Below w.heap.size w w'))
  case atStart => exact ⟨(t168), (0), (by first | rfl | (simp; done) | (simp [*]; done)), H', ⟨Nat.le_refl _⟩, ⟨by (with_reducible repeat (first | apply Kd.S_alloc | apply Kd.S_drewN | apply Kd.S_drew)); exact HO170.out⟩, ⟨by repeat (first | (with_reducible first | exact HB.out | apply zqj | apply zqb | apply zqf) | exact HB.out)⟩⟩
  case round =>
   clear H'
   try clear c1
   try clear c2
   try clear p2
   try clear c3
   obtain ⟨x3_1, x12_1, rfl, HA, HK1, HO_3, HB⟩ := hrel
   have hl3_1 := (Kd.S_reads' HO_3.out).1
   rw [hl3_1] at HO_3
   (try simp only [hl3_1])
   cases gk with
   | zero => exact absurd HA.out (by simp [names_Reset.l0])
   | succ k1 =>
    have H := HA.out
    clear HA
    simp only [names_Reset.l0] at H
    by_cases c8 : x12_1 < (t168.length : Int)
    ·rw [if_pos c8] at H
     have c8b0 : decide (x12_1 < (t168.length : Int)) = true := decide_eq_true c8
     clear c8
     by_cases c9 : 0 ≤ x12_1
     ·rw [if_pos c9] at H
      have c9b0 : decide (0 ≤ x12_1) = true := decide_eq_true c9
      clear c9
      by_cases c10 : x12_1 < (x3_1.length : Int)
      ·rw [if_pos c10] at H
       have c10b0 : decide (x12_1 < (x3_1.length : Int)) = true := decide_eq_true c10
       clear c10
       obtain ⟨y171, hy171⟩ : ∃ y_ : List (S39), y_ = (x3_1.set (x12_1 : Int).toNat (⟨(zqe x3_1 x12_1).f0, true, (zqe x3_1 x12_1).f2, (zqe x3_1 x12_1).f3⟩ : S39)) := ⟨_, rfl⟩
       replace H : (names_Reset.l0 k1 (y171.set (x12_1 : Int).toNat (⟨(zqe y171 x12_1).f0, (zqe y171 x12_1).f1, (zqe y171 x12_1).f2, ([] : List (S24))⟩ : S39)) (t168.length : Int) (wrap64 (x12_1 + 1))) = some r := by first | (rw [hy171]; with_reducible exact H) | (have H2_ := (Option.bind_some _ _).symm.trans H; rw [hy171]; with_reducible exact H2_) | (have H2_ := (Option.bind_some _ _).symm.trans H; with_reducible exact H2_) | with_reducible exact H | (rw [hy171]; exact H) | exact H
       have Ny171 := zqd.mk hy171
       clear hy171
       obtain ⟨y172, hy172⟩ : ∃ y_ : List (S39), y_ = (y171.set (x12_1 : Int).toNat (⟨(zqe y171 x12_1).f0, (zqe y171 x12_1).f1, (zqe y171 x12_1).f2, ([] : List (S24))⟩ : S39)) := ⟨_, rfl⟩
       replace H : (names_Reset.l0 k1 y172 (t168.length : Int) (wrap64 (x12_1 + 1))) = some r := by first | (rw [hy172]; with_reducible exact H) | (have H2_ := (Option.bind_some _ _).symm.trans H; rw [hy172]; with_reducible exact H2_) | (have H2_ := (Option.bind_some _ _).symm.trans H; with_reducible exact H2_) | with_reducible exact H | (rw [hy172]; exact H) | exact H
       have Ny172 := zqd.mk hy172
       clear hy172
       have H' := zqd.mk H
       clear H
       have p11 : 0 ≤ (x12_1 : Int) := of_decide_eq_true (by first | (with_reducible assumption) | assumption)
       have q11 : (x12_1 : Int) < ((x3_1.length : Int) : Int) := of_decide_eq_true (by first | (with_reducible assumption) | assumption)
       obtain ⟨go11, co11, eo11, gb11, gl11, cl11, HG11⟩ := Kd.S_form HO_3.out (by omega)
       (first | cases eo11 | (injection eo11 with ea_ en_ ec_; (first | subst ea_ | (injection ea_ with ea_; subst ea_)); subst ec_; clear en_))
       have GB11 := zqd.mk gb11
       have GG11 := zqd.mk HG11
       clear gb11 gl11 HG11
       obtain ⟨_, ce11, hcl11, hM11, hcc11, hfr11, _, _⟩ := Kd.S_elem HO_3.out z39 (x12_1 : Int) p11 q11
       obtain ⟨ve11_3, rfl, ge11_3⟩ := k39_openM hM11
       have hx11_0 : wr.cell? ⟨go11, (x12_1 : Int).toNat * 4, none⟩ = some (.string ((zqe x3_1 x12_1).f0)) := hcc11 0 _ rfl
       have hx11_1 : wr.cell? ⟨go11, (x12_1 : Int).toNat * 4 + 1, none⟩ = some (.bool ((zqe x3_1 x12_1).f1)) := hcc11 1 _ rfl
       have hx11_2 : wr.cell? ⟨go11, (x12_1 : Int).toNat * 4 + 2, none⟩ = some (.int .i64 ((zqe x3_1 x12_1).f2)) := hcc11 2 _ rfl
       have hx11_3 : wr.cell? ⟨go11, (x12_1 : Int).toNat * 4 + 3, none⟩ = some (ve11_3) := hcc11 3 _ rfl
       have hf11_0 : wr.frozen? ⟨go11, (x12_1 : Int).toNat * 4, none⟩ = false := hfr11 0
       have hf11_1 : wr.frozen? ⟨go11, (x12_1 : Int).toNat * 4 + 1, none⟩ = false := hfr11 1
       have hf11_2 : wr.frozen? ⟨go11, (x12_1 : Int).toNat * 4 + 2, none⟩ = false := hfr11 2
       have hf11_3 : wr.frozen? ⟨go11, (x12_1 : Int).toNat * 4 + 3, none⟩ = false := hfr11 3
       clear hcl11 hcc11 hfr11 hM11
       replace p11 := eq_true p11
       replace q11 := eq_true q11
       have HX13 := zqd.mk (show Kd.S k39 39 wr w.heap.size (fun k_ => ((fun _ => True)) k_ ∧ ¬ ((fun _ => False)) k_) (.slice (some ⟨go11, 0, none⟩) x3_1.length co7) x3_1 from (by (with_reducible repeat (first | apply Kd.S_alloc | apply Kd.S_drewN | apply Kd.S_drew)); exact Kd.S_mono HO_3.out (fun k_ hk => ⟨trivial, fun e_ => e_⟩)))
       obtain ⟨oki13, ce13, hcl13, hM13, hcc13, hfr13, hoki13, hH13⟩ := Kd.S_elem HX13.out z39 (x12_1 : Int) (of_decide_eq_true (by first | (with_reducible assumption) | assumption)) (by have h_ : (x12_1 : Int) < ((x3_1.length : Int) : Int) := of_decide_eq_true (by first | (with_reducible assumption) | assumption); first | exact h_ | (have e_ := (Kd.S_reads' HO_3.out).1; omega) | simpa using h_)
       obtain ⟨ve13_3, rfl, ge13_3⟩ := k39_openM hM13
       have HP13 := Kd.S_seg hH13 (of_decide_eq_true (by first | (with_reducible assumption) | assumption)) (by have h_ : (x12_1 : Int) < ((x3_1.length : Int) : Int) := of_decide_eq_true (by first | (with_reducible assumption) | assumption); first | exact h_ | (have e_ := (Kd.S_reads' HO_3.out).1; omega) | simpa using h_) (seg := [.bool true]) (j := 1) (show 2 ≤ 4 from by decide) (x' := (⟨(zqe x3_1 x12_1).f0, true, (zqe x3_1 x12_1).f2, (zqe x3_1 x12_1).f3⟩ : S39)) (k39_mkM _ _ _ (⟨(zqe x3_1 x12_1).f0, true, (zqe x3_1 x12_1).f2, (zqe x3_1 x12_1).f3⟩ : S39) (Kd.R_mono ge13_3 (fun _ h_ => Or.inl h_))) (fun _ hk => hk) (fun k_ hk_ => hk_.elim)
       have hx13_1 := hcc13 1 _ rfl
       (try simp only [show (k39).sz = 4 from rfl, Nat.mul_one, Nat.add_zero] at hx13_1)
       have hf13_1 := hfr13 1
       (try simp only [show (k39).sz = 4 from rfl, Nat.mul_one, Nat.add_zero] at hf13_1)
       clear hcl13 hcc13 hfr13 hM13 hoki13 hH13
       go_wp2_with (first | ((with_reducible refine gate_store (t := 4) (p := 20) rfl ?_); refine store_event (t := 4) (p := 20) (v := ?vo_w14) (w1 := (wr.setCell ⟨go11, (x12_1 : Int).toNat * 4 + 1, none⟩ (.bool true))) ?hg ?ho ?hn ?hr ?_; (case ho => rfl); (case hg => rfl); (case hn => rfl); (case hr => first | (go_simp; done) | (go_simp; rfl)); intro w14 hw; have hg : wr.grownBy w14 (some go11) := (by rw [hw]; exact HP13.2); have hp_ : Kd.S k39 39 w14 w.heap.size (fun _ => True) (.slice (some ⟨go11, 0, none⟩) x3_1.length co7) y171 := (by rw [hw, Ny171.out]; exact HP13.1); clear HP13; have n0_ := zqd.mk (hp_); have n1_ := zqd.mk ((by rw [hw]; exact zqk (HB.out) GB11.out : Below w.heap.size w w14)); clear HO_3; clear HB; have HO_3 := n0_; have HB := n1_; clear n0_ n1_; clear hg hw hp_; have p12 : 0 ≤ (x12_1 : Int) := of_decide_eq_true (by first | (with_reducible assumption) | assumption); have q12 : (x12_1 : Int) < ((x3_1.length : Int) : Int) := of_decide_eq_true (by first | (with_reducible assumption) | assumption); obtain ⟨_, ce12, hcl12, hM12, hcc12, hfr12, _, _⟩ := Kd.S_elem HO_3.out z39 (x12_1 : Int) p12 q12; obtain ⟨ve12_3, rfl, ge12_3⟩ := k39_openM hM12; have hx12_0 : w14.cell? ⟨go11, (x12_1 : Int).toNat * 4, none⟩ = some (.string ((zqe y171 x12_1).f0)) := hcc12 0 _ rfl; have hx12_1 : w14.cell? ⟨go11, (x12_1 : Int).toNat * 4 + 1, none⟩ = some (.bool ((zqe y171 x12_1).f1)) := hcc12 1 _ rfl; have hx12_2 : w14.cell? ⟨go11, (x12_1 : Int).toNat * 4 + 2, none⟩ = some (.int .i64 ((zqe y171 x12_1).f2)) := hcc12 2 _ rfl; have hx12_3 : w14.cell? ⟨go11, (x12_1 : Int).toNat * 4 + 3, none⟩ = some (ve12_3) := hcc12 3 _ rfl; have hf12_0 : w14.frozen? ⟨go11, (x12_1 : Int).toNat * 4, none⟩ = false := hfr12 0; have hf12_1 : w14.frozen? ⟨go11, (x12_1 : Int).toNat * 4 + 1, none⟩ = false := hfr12 1; have hf12_2 : w14.frozen? ⟨go11, (x12_1 : Int).toNat * 4 + 2, none⟩ = false := hfr12 2; have hf12_3 : w14.frozen? ⟨go11, (x12_1 : Int).toNat * 4 + 3, none⟩ = false := hfr12 3; clear hcl12 hcc12 hfr12 hM12; replace p12 := eq_true p12; replace q12 := eq_true q12; have HX15 := zqd.mk (show Kd.S k39 39 w14 w.heap.size (fun k_ => ((fun _ => True)) k_ ∧ ¬ ((fun _ => False)) k_) (.slice (some ⟨go11, 0, none⟩) x3_1.length co7) y171 from (by (with_reducible repeat (first | apply Kd.S_alloc | apply Kd.S_drewN | apply Kd.S_drew)); exact Kd.S_mono HO_3.out (fun k_ hk => ⟨trivial, fun e_ => e_⟩))); obtain ⟨oki15, ce15, hcl15, hM15, hcc15, hfr15, hoki15, hH15⟩ := Kd.S_elem HX15.out z39 (x12_1 : Int) (of_decide_eq_true (by first | (with_reducible assumption) | assumption)) (by have h_ : (x12_1 : Int) < ((x3_1.length : Int) : Int) := of_decide_eq_true (by first | (with_reducible assumption) | assumption); first | exact h_ | (have e_ := (Kd.S_reads' HO_3.out).1; omega) | simpa using h_); obtain ⟨ve15_3, rfl, ge15_3⟩ := k39_openM hM15; have HP15 := Kd.S_seg hH15 (of_decide_eq_true (by first | (with_reducible assumption) | assumption)) (by have h_ : (x12_1 : Int) < ((x3_1.length : Int) : Int) := of_decide_eq_true (by first | (with_reducible assumption) | assumption); first | exact h_ | (have e_ := (Kd.S_reads' HO_3.out).1; omega) | simpa using h_) (seg := [.slice none 0 0]) (j := 3) (show 4 ≤ 4 from by decide) (x' := (⟨(zqe y171 x12_1).f0, (zqe y171 x12_1).f1, (zqe y171 x12_1).f2, ([] : List (S24))⟩ : S39)) (k39_mkM _ _ _ (⟨(zqe y171 x12_1).f0, (zqe y171 x12_1).f1, (zqe y171 x12_1).f2, ([] : List (S24))⟩ : S39) (Kd.R_nil _ _ _ _ _)) (fun _ hk => hk) (fun k_ hk_ => hk_.elim); have hx15_3 := hcc15 3 _ rfl; (try simp only [show (k39).sz = 4 from rfl, Nat.mul_one, Nat.add_zero] at hx15_3); have hf15_3 := hfr15 3; (try simp only [show (k39).sz = 4 from rfl, Nat.mul_one, Nat.add_zero] at hf15_3); clear hcl15 hcc15 hfr15 hM15 hoki15 hH15) | ((with_reducible refine gate_store (t := 37) (p := 22) rfl ?_); refine store_event (t := 37) (p := 22) (v := ?vo_w16) (w1 := (w14.setCell ⟨go11, (x12_1 : Int).toNat * 4 + 3, none⟩ (.slice none 0 0))) ?hg ?ho ?hn ?hr ?_; (case ho => rfl); (case hg => rfl); (case hn => rfl); (case hr => first | (go_simp; done) | (go_simp; rfl)); intro w16 hw; have hg : w14.grownBy w16 (some go11) := (by rw [hw]; exact HP15.2); have hp_ : Kd.S k39 39 w16 w.heap.size (fun _ => True) (.slice (some ⟨go11, 0, none⟩) x3_1.length co7) y172 := (by rw [hw, Ny172.out]; exact HP15.1); clear HP15; have n0_ := zqd.mk (hp_); have n1_ := zqd.mk ((by rw [hw]; exact zqk (HB.out) GB11.out : Below w.heap.size w w16)); clear HO_3; clear HB; have HO_3 := n0_; have HB := n1_; clear n0_ n1_; clear hg hw hp_))
       (try simp only [← hl3_1])
       go_roundg k1
       case measure => have := HK1.out; omega
       case rel => exact ⟨(y172), (wrap64 (x12_1 + 1)), (by first | rfl | (simp; done) | (simp [*]; done)), H', ⟨by have := HK1.out; omega⟩, ⟨by (try simp only [hl3_1]); (with_reducible repeat (first | apply Kd.S_alloc | apply Kd.S_drewN | apply Kd.S_drew)); exact HO_3.out⟩, ⟨by repeat (first | (with_reducible first | exact HB.out | apply zqj | apply zqb | apply zqf) | exact HB.out)⟩⟩
      ·rw [if_neg c10] at H
       exact absurd H (by simp)
     ·rw [if_neg c9] at H
      exact absurd H (by simp)
    ·rw [if_neg c8] at H
     have c8b0 : decide (x12_1 < (t168.length : Int)) = false := decide_eq_false c8
     replace c8b0 : decide (x12_1 < (x3_1.length : Int)) = false := by rw [← hl3_1]; exact c8b0
     clear c8
     obtain rfl := Option.some.inj H
     go_wp2
     go_ret
     exact ⟨_, by first | rfl | (simp [errW_none, errW_some] <;> rfl) | (simp [*, errW_none, errW_some] <;> rfl), by (with_reducible repeat (first | apply Kd.S_alloc | apply Kd.S_drewN | apply Kd.S_drew)); exact HO_3.out, by repeat (first | (with_reducible first | exact HB.out | apply zqj | apply zqb | apply zqf) | exact HB.out)⟩
 ·replace c3 := Bool.eq_false_iff.mpr c3
  subst c3
  have H1 : (some ([] : List (S39))) = some r := by rw [if_neg (show ¬ (false = true) by decide)] at H; exact H
  clear H
  have H := H1
  clear H1
  obtain rfl := Option.some.inj H
  go_enter Tryz.func24, Tryz.ntmps24
  go_wp2_with (first | ((with_reducible refine gate_callee (f := 13) rfl ?_); refine goesL_ (some 6) rfl rfl Tryz.func13 (by kernel_rfl) rfl #[.slice A0 l0.length c0] rfl (by (try simp only [List.map_toArray, List.map_cons, List.map_nil]); first | done | rfl | (simp only [List.length_drop, List.length_take]; rfl)) ?_; (with_reducible refine (names_Right.calls k _ _ l0 false _ ?side1 ?side2 A2.out).mono ?_); (case side1 => repeat (first | exact HR0.out | (with_reducible refine Kd.C_alloc ?_ _) | (with_reducible refine Kd.C_drewN ?_ _) | (with_reducible refine Kd.C_drew ?_))); (case side2 => exact HC0.out); rintro e w17 ⟨rfl, hb⟩; refine ⟨_, rfl, ?_⟩; have n0_ := zqd.mk (below_step (by repeat (first | (with_reducible first | exact HB.out | apply zqj | apply zqb | apply zqf) | exact HB.out)) hb); clear HB; have HB := n0_; clear n0_; (try clear hb); (try clear hb2); (try clear hk); (try clear hi)))
  go_ret
  exact ⟨_, by first | rfl | (simp [errW_none, errW_some] <;> rfl) | (simp [*, errW_none, errW_some] <;> rfl), by first | exact Kd.S_nil _ _ _ _ _ | exact Kd.N_nil _ _ _ _ _ | exact Kd.V_nil _ _ _ _ _ | exact Kd.Q_nil _ _ _ _ _ | exact Kd.R_nil _ _ _ _ _, by repeat (first | (with_reducible first | exact HB.out | apply zqj | apply zqb | apply zqf) | exact HB.out)⟩
def chicanelaw14_does.f (k : Nat) (l0 : List (S39)) (a1_0 : Int) (a1_1 : Int) (a1_2 : ByteArray) (a1_3 : ByteArray) (a1_4 : Bool) (a1_5 : ByteArray) (a1_6 : Int) (a1_7 : Bool) (a1_8 : Int) (a1_9 : Int) (a1_10 : Int) : Option ((List (S39)) × Int) := if a1_0 = 0 then ((names_Add.f l0 a1_2 a1_1).bind fun bt174 => (some (bt174.1, bt174.2))) else (if a1_0 = 1 then ((names_Drop.f l0 a1_2).bind fun bt178 => (some (bt178.1, bt178.2))) else (if a1_0 = 2 then ((names_Switch.f l0 a1_2 a1_4).bind fun bt182 => (some (bt182.1, bt182.2))) else (if a1_0 = 3 then ((names_AddToxic.f l0 a1_2 a1_5 a1_6 a1_7 a1_8 a1_9 a1_10).bind fun bt186 => (some (bt186.1, bt186.2))) else (if a1_0 = 4 then ((names_DropToxic.f l0 a1_2 a1_3).bind fun bt190 => (some (bt190.1, bt190.2))) else (if a1_0 = 5 then ((names_SetToxic.f l0 a1_2 a1_5 a1_6 a1_7 a1_8 a1_9 a1_10).bind fun bt194 => (some (bt194.1, bt194.2))) else ((names_Reset.f k l0).bind fun t198 => (some (t198, 0))))))))
theorem chicanelaw14_does.mono : ∀ a0 a1 a2 a3 a4 a5 a6 a7 a8 a9 a10 a11 k, LeO (chicanelaw14_does.f k a0 a1 a2 a3 a4 a5 a6 a7 a8 a9 a10 a11) (chicanelaw14_does.f (k + 1) a0 a1 a2 a3 a4 a5 a6 a7 a8 a9 a10 a11) := by
 intro a0 a1 a2 a3 a4 a5 a6 a7 a8 a9 a10 a11 k
 unfold chicanelaw14_does.f
 repeat' first
   | (with_reducible exact names_Reset.mono _ _)
   | (with_reducible exact LeO.refl _)
   | (with_reducible exact LeO.none _)
   | (with_reducible refine LeO.ite ?_ ?_)
   | (with_reducible refine LeO.bind ?_ (fun _ => ?_))
   | exact names_Reset.mono _ _
   | exact LeO.none _
   | refine LeO.ite ?_ ?_
   | refine LeO.bind ?_ (fun _ => ?_)
set_option maxHeartbeats 8000000 in
set_option maxRecDepth 100000 in
theorem chicanelaw14_does.calls (k : Nat) (A0 : Option Addr) (c0 : Nat) (l0 : List (S39)) (a1_0 : Int) (a1_1 : Int) (a1_2 : ByteArray) (a1_3 : ByteArray) (a1_4 : Bool) (a1_5 : ByteArray) (a1_6 : Int) (a1_7 : Bool) (a1_8 : Int) (a1_9 : Int) (a1_10 : Int) (r1 : List (S39)) (r2 : Int) (w : World) (hr0 : Kd.C k39 w A0 l0.length l0) (hc0 : l0.length ≤ c0) (h : chicanelaw14_does.f k l0 a1_0 a1_1 a1_2 a1_3 a1_4 a1_5 a1_6 a1_7 a1_8 a1_9 a1_10 = some (r1, r2)) :
  Calls Tryz.prog 9 #[.slice A0 l0.length c0, .agg #[.int .i64 a1_0, .int .i64 a1_1, .string a1_2, .string a1_3, .bool a1_4, .string a1_5, .int .i64 a1_6, .bool a1_7, .int .i64 a1_8, .int .i64 a1_9, .int .i64 a1_10]] w fun e w' => ∃ v0_ : Value, e = .returned (.tuple #[v0_, .int .i64 r2]) ∧ Kd.S k39 39 w' w.heap.size (fun _ => True) v0_ r1 ∧ Below w.heap.size w w' := by
 have hu26 := Tryz.underlying26
 have hu24 := Tryz.underlying24
 have HR0 := zqd.mk hr0
 have HC0 := zqd.mk hc0
 clear hr0 hc0
 have HB := zqd.mk (Below.refl w.heap.size w)
 have H : (if a1_0 = 0 then ((names_Add.f l0 a1_2 a1_1).bind fun bt174 => (some (bt174.1, bt174.2))) else (if a1_0 = 1 then ((names_Drop.f l0 a1_2).bind fun bt178 => (some (bt178.1, bt178.2))) else (if a1_0 = 2 then ((names_Switch.f l0 a1_2 a1_4).bind fun bt182 => (some (bt182.1, bt182.2))) else (if a1_0 = 3 then ((names_AddToxic.f l0 a1_2 a1_5 a1_6 a1_7 a1_8 a1_9 a1_10).bind fun bt186 => (some (bt186.1, bt186.2))) else (if a1_0 = 4 then ((names_DropToxic.f l0 a1_2 a1_3).bind fun bt190 => (some (bt190.1, bt190.2))) else (if a1_0 = 5 then ((names_SetToxic.f l0 a1_2 a1_5 a1_6 a1_7 a1_8 a1_9 a1_10).bind fun bt194 => (some (bt194.1, bt194.2))) else ((names_Reset.f k l0).bind fun t198 => (some (t198, 0))))))))) = some (r1, r2) := h
 clear h
 by_cases c3 : a1_0 = 0
 ·rw [if_pos c3] at H
  have c3b0 : (a1_0 == 0) = true := beq_iff_eq.mpr c3
  have c3b1 : (a1_0 != 0) = false := bne_eq_false_iff_eq.mpr c3
  clear c3
  replace H := Option.bind_eq_some_iff.mp H
  obtain ⟨⟨t174, t175⟩, A40, H⟩ := H
  replace H : (some (t174, t175)) = some (r1, r2) := H
  have A4 := zqd.mk A40
  clear A40
  simp only [Option.some.injEq, Prod.mk.injEq] at H
  obtain ⟨rfl, rfl⟩ := H
  go_enter Tryz.func9, Tryz.ntmps9
  go_wp2_with (first | ((with_reducible refine gate_dst (N := 3) rfl ?_); refine box_event ?hg (N := 3) ?hd (cs := #[.int .i64 a1_0, .int .i64 a1_1, .string a1_2, .string a1_3, .bool a1_4, .string a1_5, .int .i64 a1_6, .bool a1_7, .int .i64 a1_8, .int .i64 a1_9, .int .i64 a1_10]) (t := 26) ?hr ?_; (case hd => rfl); (case hg => rfl); (case hr => first | (go_simp; done) | (go_simp; rfl)); intro gb173 hg w5 hbox hb; have n0_ := zqd.mk (below_step (by repeat (first | (with_reducible first | exact HB.out | apply zqj | apply zqb | apply zqf) | exact HB.out)) hb); have n1_ := zqd.mk (hbox); have n2_ := zqd.mk ((by rw [hg]; exact (below_size (by repeat (first | (with_reducible first | exact HB.out | apply zqj | apply zqb | apply zqf) | exact HB.out))) : w.heap.size ≤ gb173)); have n3_ := zqd.mk ((by rw [hg]; exact (below_size (by repeat (first | (with_reducible first | exact HB.out | apply zqj | apply zqb | apply zqf) | exact HB.out))) : w.heap.size ≤ gb173)); clear HB; have HB := n0_; have BK173 := n1_; have GW173 := n2_; have GE173 := n3_; clear n0_ n1_ n2_ n3_; clear hb hbox hg; have hcz6_0 : w5.cell? ⟨gb173, 0, none⟩ = some (.int .i64 a1_0) := (zqc BK173.out 0).trans rfl; have hcz6_1 : w5.cell? ⟨gb173, 1, none⟩ = some (.int .i64 a1_1) := (zqc BK173.out 1).trans rfl; have hcz6_2 : w5.cell? ⟨gb173, 2, none⟩ = some (.string a1_2) := (zqc BK173.out 2).trans rfl; have hcz6_3 : w5.cell? ⟨gb173, 3, none⟩ = some (.string a1_3) := (zqc BK173.out 3).trans rfl; have hcz6_4 : w5.cell? ⟨gb173, 4, none⟩ = some (.bool a1_4) := (zqc BK173.out 4).trans rfl; have hcz6_5 : w5.cell? ⟨gb173, 5, none⟩ = some (.string a1_5) := (zqc BK173.out 5).trans rfl; have hcz6_6 : w5.cell? ⟨gb173, 6, none⟩ = some (.int .i64 a1_6) := (zqc BK173.out 6).trans rfl; have hcz6_7 : w5.cell? ⟨gb173, 7, none⟩ = some (.bool a1_7) := (zqc BK173.out 7).trans rfl; have hcz6_8 : w5.cell? ⟨gb173, 8, none⟩ = some (.int .i64 a1_8) := (zqc BK173.out 8).trans rfl; have hcz6_9 : w5.cell? ⟨gb173, 9, none⟩ = some (.int .i64 a1_9) := (zqc BK173.out 9).trans rfl; have hcz6_10 : w5.cell? ⟨gb173, 10, none⟩ = some (.int .i64 a1_10) := (zqc BK173.out 10).trans rfl; have hfz6_0 := zqa BK173.out 0; have hfz6_1 := zqa BK173.out 1; have hfz6_2 := zqa BK173.out 2; have hfz6_3 := zqa BK173.out 3; have hfz6_4 := zqa BK173.out 4; have hfz6_5 := zqa BK173.out 5; have hfz6_6 := zqa BK173.out 6; have hfz6_7 := zqa BK173.out 7; have hfz6_8 := zqa BK173.out 8; have hfz6_9 := zqa BK173.out 9; have hfz6_10 := zqa BK173.out 10) | ((with_reducible refine gate_callee (f := 15) rfl ?_); refine goesL_ (some 15) rfl rfl Tryz.func15 (by kernel_rfl) rfl #[.slice A0 l0.length c0, .string a1_2, .int .i64 a1_1] rfl (by (try simp only [List.map_toArray, List.map_cons, List.map_nil]); first | done | rfl | (simp only [List.length_drop, List.length_take]; rfl)) ?_; (with_reducible refine (names_Add.calls _ _ l0 a1_2 a1_1 t174 t175 _ ?side1 ?side2 A4.out).mono ?_); (case side1 => repeat (first | exact (Kd.C_below HR0.out HB.out) | (with_reducible refine Kd.C_alloc ?_ _) | (with_reducible refine Kd.C_drewN ?_ _) | (with_reducible refine Kd.C_drew ?_))); (case side2 => exact HC0.out); rintro e w7 ⟨v176, rfl, ho0, hb⟩; refine ⟨_, rfl, ?_⟩; have n0_ := zqd.mk (Kd.S_lower ho0 (below_size (by repeat (first | (with_reducible first | exact HB.out | apply zqj | apply zqb | apply zqf | refine zqk ?_ GE173.out) | exact HB.out)))); have n1_ := zqd.mk (blk_below (g := gb173) (o := .cells #[.int .i64 a1_0, .int .i64 a1_1, .string a1_2, .string a1_3, .bool a1_4, .string a1_5, .int .i64 a1_6, .bool a1_7, .int .i64 a1_8, .int .i64 a1_9, .int .i64 a1_10] 26 (0, 0)) (by (with_reducible repeat (first | refine zqg ?_ _ | refine zqi ?_ | refine zqh ?_ _)); exact BK173.out) hb); have n2_ := zqd.mk (below_step (by repeat (first | (with_reducible first | exact HB.out | apply zqj | apply zqb | apply zqf | refine zqk ?_ GE173.out) | exact HB.out)) hb); clear BK173; clear HB; have HO177 := n0_; have BK173 := n1_; have HB := n2_; clear n0_ n1_ n2_; (try clear hb); (try clear hb2); (try clear hk); (try clear hi); (try clear ho0)))
  go_ret2
  exact ⟨_, by first | rfl | (simp [errW_none, errW_some] <;> rfl) | (simp [*, errW_none, errW_some] <;> rfl), by (with_reducible repeat (first | apply Kd.S_alloc | apply Kd.S_drewN | apply Kd.S_drew)); exact HO177.out, by repeat (first | (with_reducible first | exact HB.out | apply zqj | apply zqb | apply zqf | refine zqk ?_ GE173.out) | exact HB.out)⟩
 ·rw [if_neg c3] at H
  have c3b0 : (a1_0 == 0) = false := beq_eq_false_iff_ne.mpr c3
  have c3b1 : (a1_0 != 0) = true := bne_iff_ne.mpr c3
  by_cases c8 : a1_0 = 1
  ·rw [if_pos c8] at H
   have c8b0 : (a1_0 == 1) = true := beq_iff_eq.mpr c8
   have c8b1 : (a1_0 != 1) = false := bne_eq_false_iff_eq.mpr c8
   clear c8
   replace H := Option.bind_eq_some_iff.mp H
   obtain ⟨⟨t178, t179⟩, A90, H⟩ := H
   replace H : (some (t178, t179)) = some (r1, r2) := H
   have A9 := zqd.mk A90
   clear A90
   simp only [Option.some.injEq, Prod.mk.injEq] at H
   obtain ⟨rfl, rfl⟩ := H
   go_enter Tryz.func9, Tryz.ntmps9
   go_wp2_with (first | ((with_reducible refine gate_dst (N := 3) rfl ?_); refine box_event ?hg (N := 3) ?hd (cs := #[.int .i64 a1_0, .int .i64 a1_1, .string a1_2, .string a1_3, .bool a1_4, .string a1_5, .int .i64 a1_6, .bool a1_7, .int .i64 a1_8, .int .i64 a1_9, .int .i64 a1_10]) (t := 26) ?hr ?_; (case hd => rfl); (case hg => rfl); (case hr => first | (go_simp; done) | (go_simp; rfl)); intro gb173 hg w10 hbox hb; have n0_ := zqd.mk (below_step (by repeat (first | (with_reducible first | exact HB.out | apply zqj | apply zqb | apply zqf) | exact HB.out)) hb); have n1_ := zqd.mk (hbox); have n2_ := zqd.mk ((by rw [hg]; exact (below_size (by repeat (first | (with_reducible first | exact HB.out | apply zqj | apply zqb | apply zqf) | exact HB.out))) : w.heap.size ≤ gb173)); have n3_ := zqd.mk ((by rw [hg]; exact (below_size (by repeat (first | (with_reducible first | exact HB.out | apply zqj | apply zqb | apply zqf) | exact HB.out))) : w.heap.size ≤ gb173)); clear HB; have HB := n0_; have BK173 := n1_; have GW173 := n2_; have GE173 := n3_; clear n0_ n1_ n2_ n3_; clear hb hbox hg; have hcz11_0 : w10.cell? ⟨gb173, 0, none⟩ = some (.int .i64 a1_0) := (zqc BK173.out 0).trans rfl; have hcz11_1 : w10.cell? ⟨gb173, 1, none⟩ = some (.int .i64 a1_1) := (zqc BK173.out 1).trans rfl; have hcz11_2 : w10.cell? ⟨gb173, 2, none⟩ = some (.string a1_2) := (zqc BK173.out 2).trans rfl; have hcz11_3 : w10.cell? ⟨gb173, 3, none⟩ = some (.string a1_3) := (zqc BK173.out 3).trans rfl; have hcz11_4 : w10.cell? ⟨gb173, 4, none⟩ = some (.bool a1_4) := (zqc BK173.out 4).trans rfl; have hcz11_5 : w10.cell? ⟨gb173, 5, none⟩ = some (.string a1_5) := (zqc BK173.out 5).trans rfl; have hcz11_6 : w10.cell? ⟨gb173, 6, none⟩ = some (.int .i64 a1_6) := (zqc BK173.out 6).trans rfl; have hcz11_7 : w10.cell? ⟨gb173, 7, none⟩ = some (.bool a1_7) := (zqc BK173.out 7).trans rfl; have hcz11_8 : w10.cell? ⟨gb173, 8, none⟩ = some (.int .i64 a1_8) := (zqc BK173.out 8).trans rfl; have hcz11_9 : w10.cell? ⟨gb173, 9, none⟩ = some (.int .i64 a1_9) := (zqc BK173.out 9).trans rfl; have hcz11_10 : w10.cell? ⟨gb173, 10, none⟩ = some (.int .i64 a1_10) := (zqc BK173.out 10).trans rfl; have hfz11_0 := zqa BK173.out 0; have hfz11_1 := zqa BK173.out 1; have hfz11_2 := zqa BK173.out 2; have hfz11_3 := zqa BK173.out 3; have hfz11_4 := zqa BK173.out 4; have hfz11_5 := zqa BK173.out 5; have hfz11_6 := zqa BK173.out 6; have hfz11_7 := zqa BK173.out 7; have hfz11_8 := zqa BK173.out 8; have hfz11_9 := zqa BK173.out 9; have hfz11_10 := zqa BK173.out 10) | ((with_reducible refine gate_callee (f := 19) rfl ?_); refine goesL_ (some 23) rfl rfl Tryz.func19 (by kernel_rfl) rfl #[.slice A0 l0.length c0, .string a1_2] rfl (by (try simp only [List.map_toArray, List.map_cons, List.map_nil]); first | done | rfl | (simp only [List.length_drop, List.length_take]; rfl)) ?_; (with_reducible refine (names_Drop.calls _ _ l0 a1_2 t178 t179 _ ?side1 ?side2 A9.out).mono ?_); (case side1 => repeat (first | exact (Kd.C_below HR0.out HB.out) | (with_reducible refine Kd.C_alloc ?_ _) | (with_reducible refine Kd.C_drewN ?_ _) | (with_reducible refine Kd.C_drew ?_))); (case side2 => exact HC0.out); rintro e w12 ⟨v180, rfl, ho0, hb⟩; refine ⟨_, rfl, ?_⟩; have n0_ := zqd.mk (Kd.S_lower ho0 (below_size (by repeat (first | (with_reducible first | exact HB.out | apply zqj | apply zqb | apply zqf | refine zqk ?_ GE173.out) | exact HB.out)))); have n1_ := zqd.mk (blk_below (g := gb173) (o := .cells #[.int .i64 a1_0, .int .i64 a1_1, .string a1_2, .string a1_3, .bool a1_4, .string a1_5, .int .i64 a1_6, .bool a1_7, .int .i64 a1_8, .int .i64 a1_9, .int .i64 a1_10] 26 (0, 0)) (by (with_reducible repeat (first | refine zqg ?_ _ | refine zqi ?_ | refine zqh ?_ _)); exact BK173.out) hb); have n2_ := zqd.mk (below_step (by repeat (first | (with_reducible first | exact HB.out | apply zqj | apply zqb | apply zqf | refine zqk ?_ GE173.out) | exact HB.out)) hb); clear BK173; clear HB; have HO181 := n0_; have BK173 := n1_; have HB := n2_; clear n0_ n1_ n2_; (try clear hb); (try clear hb2); (try clear hk); (try clear hi); (try clear ho0)))
   go_ret2
   exact ⟨_, by first | rfl | (simp [errW_none, errW_some] <;> rfl) | (simp [*, errW_none, errW_some] <;> rfl), by (with_reducible repeat (first | apply Kd.S_alloc | apply Kd.S_drewN | apply Kd.S_drew)); exact HO181.out, by repeat (first | (with_reducible first | exact HB.out | apply zqj | apply zqb | apply zqf | refine zqk ?_ GE173.out) | exact HB.out)⟩
  ·rw [if_neg c8] at H
   have c8b0 : (a1_0 == 1) = false := beq_eq_false_iff_ne.mpr c8
   have c8b1 : (a1_0 != 1) = true := bne_iff_ne.mpr c8
   by_cases c13 : a1_0 = 2
   ·rw [if_pos c13] at H
    have c13b0 : (a1_0 == 2) = true := beq_iff_eq.mpr c13
    have c13b1 : (a1_0 != 2) = false := bne_eq_false_iff_eq.mpr c13
    clear c13
    replace H := Option.bind_eq_some_iff.mp H
    obtain ⟨⟨t182, t183⟩, A140, H⟩ := H
    replace H : (some (t182, t183)) = some (r1, r2) := H
    have A14 := zqd.mk A140
    clear A140
    simp only [Option.some.injEq, Prod.mk.injEq] at H
    obtain ⟨rfl, rfl⟩ := H
    go_enter Tryz.func9, Tryz.ntmps9
    go_wp2_with (first | ((with_reducible refine gate_dst (N := 3) rfl ?_); refine box_event ?hg (N := 3) ?hd (cs := #[.int .i64 a1_0, .int .i64 a1_1, .string a1_2, .string a1_3, .bool a1_4, .string a1_5, .int .i64 a1_6, .bool a1_7, .int .i64 a1_8, .int .i64 a1_9, .int .i64 a1_10]) (t := 26) ?hr ?_; (case hd => rfl); (case hg => rfl); (case hr => first | (go_simp; done) | (go_simp; rfl)); intro gb173 hg w15 hbox hb; have n0_ := zqd.mk (below_step (by repeat (first | (with_reducible first | exact HB.out | apply zqj | apply zqb | apply zqf) | exact HB.out)) hb); have n1_ := zqd.mk (hbox); have n2_ := zqd.mk ((by rw [hg]; exact (below_size (by repeat (first | (with_reducible first | exact HB.out | apply zqj | apply zqb | apply zqf) | exact HB.out))) : w.heap.size ≤ gb173)); have n3_ := zqd.mk ((by rw [hg]; exact (below_size (by repeat (first | (with_reducible first | exact HB.out | apply zqj | apply zqb | apply zqf) | exact HB.out))) : w.heap.size ≤ gb173)); clear HB; have HB := n0_; have BK173 := n1_; have GW173 := n2_; have GE173 := n3_; clear n0_ n1_ n2_ n3_; clear hb hbox hg; have hcz16_0 : w15.cell? ⟨gb173, 0, none⟩ = some (.int .i64 a1_0) := (zqc BK173.out 0).trans rfl; have hcz16_1 : w15.cell? ⟨gb173, 1, none⟩ = some (.int .i64 a1_1) := (zqc BK173.out 1).trans rfl; have hcz16_2 : w15.cell? ⟨gb173, 2, none⟩ = some (.string a1_2) := (zqc BK173.out 2).trans rfl; have hcz16_3 : w15.cell? ⟨gb173, 3, none⟩ = some (.string a1_3) := (zqc BK173.out 3).trans rfl; have hcz16_4 : w15.cell? ⟨gb173, 4, none⟩ = some (.bool a1_4) := (zqc BK173.out 4).trans rfl; have hcz16_5 : w15.cell? ⟨gb173, 5, none⟩ = some (.string a1_5) := (zqc BK173.out 5).trans rfl; have hcz16_6 : w15.cell? ⟨gb173, 6, none⟩ = some (.int .i64 a1_6) := (zqc BK173.out 6).trans rfl; have hcz16_7 : w15.cell? ⟨gb173, 7, none⟩ = some (.bool a1_7) := (zqc BK173.out 7).trans rfl; have hcz16_8 : w15.cell? ⟨gb173, 8, none⟩ = some (.int .i64 a1_8) := (zqc BK173.out 8).trans rfl; have hcz16_9 : w15.cell? ⟨gb173, 9, none⟩ = some (.int .i64 a1_9) := (zqc BK173.out 9).trans rfl; have hcz16_10 : w15.cell? ⟨gb173, 10, none⟩ = some (.int .i64 a1_10) := (zqc BK173.out 10).trans rfl; have hfz16_0 := zqa BK173.out 0; have hfz16_1 := zqa BK173.out 1; have hfz16_2 := zqa BK173.out 2; have hfz16_3 := zqa BK173.out 3; have hfz16_4 := zqa BK173.out 4; have hfz16_5 := zqa BK173.out 5; have hfz16_6 := zqa BK173.out 6; have hfz16_7 := zqa BK173.out 7; have hfz16_8 := zqa BK173.out 8; have hfz16_9 := zqa BK173.out 9; have hfz16_10 := zqa BK173.out 10) | ((with_reducible refine gate_callee (f := 21) rfl ?_); refine goesL_ (some 33) rfl rfl Tryz.func21 (by kernel_rfl) rfl #[.slice A0 l0.length c0, .string a1_2, .bool a1_4] rfl (by (try simp only [List.map_toArray, List.map_cons, List.map_nil]); first | done | rfl | (simp only [List.length_drop, List.length_take]; rfl)) ?_; (with_reducible refine (names_Switch.calls _ _ l0 a1_2 a1_4 t182 t183 _ ?side1 ?side2 A14.out).mono ?_); (case side1 => repeat (first | exact (Kd.C_below HR0.out HB.out) | (with_reducible refine Kd.C_alloc ?_ _) | (with_reducible refine Kd.C_drewN ?_ _) | (with_reducible refine Kd.C_drew ?_))); (case side2 => exact HC0.out); rintro e w17 ⟨v184, rfl, ho0, hb⟩; refine ⟨_, rfl, ?_⟩; have n0_ := zqd.mk (Kd.S_lower ho0 (below_size (by repeat (first | (with_reducible first | exact HB.out | apply zqj | apply zqb | apply zqf | refine zqk ?_ GE173.out) | exact HB.out)))); have n1_ := zqd.mk (blk_below (g := gb173) (o := .cells #[.int .i64 a1_0, .int .i64 a1_1, .string a1_2, .string a1_3, .bool a1_4, .string a1_5, .int .i64 a1_6, .bool a1_7, .int .i64 a1_8, .int .i64 a1_9, .int .i64 a1_10] 26 (0, 0)) (by (with_reducible repeat (first | refine zqg ?_ _ | refine zqi ?_ | refine zqh ?_ _)); exact BK173.out) hb); have n2_ := zqd.mk (below_step (by repeat (first | (with_reducible first | exact HB.out | apply zqj | apply zqb | apply zqf | refine zqk ?_ GE173.out) | exact HB.out)) hb); clear BK173; clear HB; have HO185 := n0_; have BK173 := n1_; have HB := n2_; clear n0_ n1_ n2_; (try clear hb); (try clear hb2); (try clear hk); (try clear hi); (try clear ho0)))
    go_ret2
    exact ⟨_, by first | rfl | (simp [errW_none, errW_some] <;> rfl) | (simp [*, errW_none, errW_some] <;> rfl), by (with_reducible repeat (first | apply Kd.S_alloc | apply Kd.S_drewN | apply Kd.S_drew)); exact HO185.out, by repeat (first | (with_reducible first | exact HB.out | apply zqj | apply zqb | apply zqf | refine zqk ?_ GE173.out) | exact HB.out)⟩
   ·rw [if_neg c13] at H
    have c13b0 : (a1_0 == 2) = false := beq_eq_false_iff_ne.mpr c13
    have c13b1 : (a1_0 != 2) = true := bne_iff_ne.mpr c13
    by_cases c18 : a1_0 = 3
    ·rw [if_pos c18] at H
     have c18b0 : (a1_0 == 3) = true := beq_iff_eq.mpr c18
     have c18b1 : (a1_0 != 3) = false := bne_eq_false_iff_eq.mpr c18
     clear c18
     replace H := Option.bind_eq_some_iff.mp H
     obtain ⟨⟨t186, t189⟩, A190, H⟩ := H
     replace H : (some (t186, t189)) = some (r1, r2) := H
     have A19 := zqd.mk A190
     clear A190
     simp only [Option.some.injEq, Prod.mk.injEq] at H
     obtain ⟨rfl, rfl⟩ := H
     go_enter Tryz.func9, Tryz.ntmps9
     go_wp2_with (first | ((with_reducible refine gate_dst (N := 3) rfl ?_); refine box_event ?hg (N := 3) ?hd (cs := #[.int .i64 a1_0, .int .i64 a1_1, .string a1_2, .string a1_3, .bool a1_4, .string a1_5, .int .i64 a1_6, .bool a1_7, .int .i64 a1_8, .int .i64 a1_9, .int .i64 a1_10]) (t := 26) ?hr ?_; (case hd => rfl); (case hg => rfl); (case hr => first | (go_simp; done) | (go_simp; rfl)); intro gb173 hg w20 hbox hb; have n0_ := zqd.mk (below_step (by repeat (first | (with_reducible first | exact HB.out | apply zqj | apply zqb | apply zqf) | exact HB.out)) hb); have n1_ := zqd.mk (hbox); have n2_ := zqd.mk ((by rw [hg]; exact (below_size (by repeat (first | (with_reducible first | exact HB.out | apply zqj | apply zqb | apply zqf) | exact HB.out))) : w.heap.size ≤ gb173)); have n3_ := zqd.mk ((by rw [hg]; exact (below_size (by repeat (first | (with_reducible first | exact HB.out | apply zqj | apply zqb | apply zqf) | exact HB.out))) : w.heap.size ≤ gb173)); clear HB; have HB := n0_; have BK173 := n1_; have GW173 := n2_; have GE173 := n3_; clear n0_ n1_ n2_ n3_; clear hb hbox hg; have hcz21_0 : w20.cell? ⟨gb173, 0, none⟩ = some (.int .i64 a1_0) := (zqc BK173.out 0).trans rfl; have hcz21_1 : w20.cell? ⟨gb173, 1, none⟩ = some (.int .i64 a1_1) := (zqc BK173.out 1).trans rfl; have hcz21_2 : w20.cell? ⟨gb173, 2, none⟩ = some (.string a1_2) := (zqc BK173.out 2).trans rfl; have hcz21_3 : w20.cell? ⟨gb173, 3, none⟩ = some (.string a1_3) := (zqc BK173.out 3).trans rfl; have hcz21_4 : w20.cell? ⟨gb173, 4, none⟩ = some (.bool a1_4) := (zqc BK173.out 4).trans rfl; have hcz21_5 : w20.cell? ⟨gb173, 5, none⟩ = some (.string a1_5) := (zqc BK173.out 5).trans rfl; have hcz21_6 : w20.cell? ⟨gb173, 6, none⟩ = some (.int .i64 a1_6) := (zqc BK173.out 6).trans rfl; have hcz21_7 : w20.cell? ⟨gb173, 7, none⟩ = some (.bool a1_7) := (zqc BK173.out 7).trans rfl; have hcz21_8 : w20.cell? ⟨gb173, 8, none⟩ = some (.int .i64 a1_8) := (zqc BK173.out 8).trans rfl; have hcz21_9 : w20.cell? ⟨gb173, 9, none⟩ = some (.int .i64 a1_9) := (zqc BK173.out 9).trans rfl; have hcz21_10 : w20.cell? ⟨gb173, 10, none⟩ = some (.int .i64 a1_10) := (zqc BK173.out 10).trans rfl; have hfz21_0 := zqa BK173.out 0; have hfz21_1 := zqa BK173.out 1; have hfz21_2 := zqa BK173.out 2; have hfz21_3 := zqa BK173.out 3; have hfz21_4 := zqa BK173.out 4; have hfz21_5 := zqa BK173.out 5; have hfz21_6 := zqa BK173.out 6; have hfz21_7 := zqa BK173.out 7; have hfz21_8 := zqa BK173.out 8; have hfz21_9 := zqa BK173.out 9; have hfz21_10 := zqa BK173.out 10) | ((with_reducible refine gate_callee (f := 16) rfl ?_); refine goesL_ (some 43) rfl rfl Tryz.func16 (by kernel_rfl) rfl #[.slice A0 l0.length c0, .string a1_2, .agg #[.string a1_5, .int .i64 a1_6, .bool a1_7, .int .i64 a1_8, .int .i64 a1_9, .int .i64 a1_10]] rfl (by (try simp only [List.map_toArray, List.map_cons, List.map_nil]); first | done | rfl | (simp only [List.length_drop, List.length_take]; rfl)) ?_; (with_reducible refine (names_AddToxic.calls _ _ l0 a1_2 a1_5 a1_6 a1_7 a1_8 a1_9 a1_10 t186 t189 _ ?side1 ?side2 A19.out).mono ?_); (case side1 => repeat (first | exact (Kd.C_below HR0.out HB.out) | (with_reducible refine Kd.C_alloc ?_ _) | (with_reducible refine Kd.C_drewN ?_ _) | (with_reducible refine Kd.C_drew ?_))); (case side2 => exact HC0.out); rintro e w22 ⟨v187, rfl, ho0, hb⟩; refine ⟨_, rfl, ?_⟩; have n0_ := zqd.mk (Kd.S_lower ho0 (below_size (by repeat (first | (with_reducible first | exact HB.out | apply zqj | apply zqb | apply zqf | refine zqk ?_ GE173.out) | exact HB.out)))); have n1_ := zqd.mk (blk_below (g := gb173) (o := .cells #[.int .i64 a1_0, .int .i64 a1_1, .string a1_2, .string a1_3, .bool a1_4, .string a1_5, .int .i64 a1_6, .bool a1_7, .int .i64 a1_8, .int .i64 a1_9, .int .i64 a1_10] 26 (0, 0)) (by (with_reducible repeat (first | refine zqg ?_ _ | refine zqi ?_ | refine zqh ?_ _)); exact BK173.out) hb); have n2_ := zqd.mk (below_step (by repeat (first | (with_reducible first | exact HB.out | apply zqj | apply zqb | apply zqf | refine zqk ?_ GE173.out) | exact HB.out)) hb); clear BK173; clear HB; have HO188 := n0_; have BK173 := n1_; have HB := n2_; clear n0_ n1_ n2_; (try clear hb); (try clear hb2); (try clear hk); (try clear hi); (try clear ho0)))
     go_ret2
     exact ⟨_, by first | rfl | (simp [errW_none, errW_some] <;> rfl) | (simp [*, errW_none, errW_some] <;> rfl), by (with_reducible repeat (first | apply Kd.S_alloc | apply Kd.S_drewN | apply Kd.S_drew)); exact HO188.out, by repeat (first | (with_reducible first | exact HB.out | apply zqj | apply zqb | apply zqf | refine zqk ?_ GE173.out) | exact HB.out)⟩
    ·rw [if_neg c18] at H
     have c18b0 : (a1_0 == 3) = false := beq_eq_false_iff_ne.mpr c18
     have c18b1 : (a1_0 != 3) = true := bne_iff_ne.mpr c18
     by_cases c23 : a1_0 = 4
     ·rw [if_pos c23] at H
      have c23b0 : (a1_0 == 4) = true := beq_iff_eq.mpr c23
      have c23b1 : (a1_0 != 4) = false := bne_eq_false_iff_eq.mpr c23
      clear c23
      replace H := Option.bind_eq_some_iff.mp H
      obtain ⟨⟨t190, t191⟩, A240, H⟩ := H
      replace H : (some (t190, t191)) = some (r1, r2) := H
      have A24 := zqd.mk A240
      clear A240
      simp only [Option.some.injEq, Prod.mk.injEq] at H
      obtain ⟨rfl, rfl⟩ := H
      go_enter Tryz.func9, Tryz.ntmps9
      go_wp2_with (first | ((with_reducible refine gate_dst (N := 3) rfl ?_); refine box_event ?hg (N := 3) ?hd (cs := #[.int .i64 a1_0, .int .i64 a1_1, .string a1_2, .string a1_3, .bool a1_4, .string a1_5, .int .i64 a1_6, .bool a1_7, .int .i64 a1_8, .int .i64 a1_9, .int .i64 a1_10]) (t := 26) ?hr ?_; (case hd => rfl); (case hg => rfl); (case hr => first | (go_simp; done) | (go_simp; rfl)); intro gb173 hg w25 hbox hb; have n0_ := zqd.mk (below_step (by repeat (first | (with_reducible first | exact HB.out | apply zqj | apply zqb | apply zqf) | exact HB.out)) hb); have n1_ := zqd.mk (hbox); have n2_ := zqd.mk ((by rw [hg]; exact (below_size (by repeat (first | (with_reducible first | exact HB.out | apply zqj | apply zqb | apply zqf) | exact HB.out))) : w.heap.size ≤ gb173)); have n3_ := zqd.mk ((by rw [hg]; exact (below_size (by repeat (first | (with_reducible first | exact HB.out | apply zqj | apply zqb | apply zqf) | exact HB.out))) : w.heap.size ≤ gb173)); clear HB; have HB := n0_; have BK173 := n1_; have GW173 := n2_; have GE173 := n3_; clear n0_ n1_ n2_ n3_; clear hb hbox hg; have hcz26_0 : w25.cell? ⟨gb173, 0, none⟩ = some (.int .i64 a1_0) := (zqc BK173.out 0).trans rfl; have hcz26_1 : w25.cell? ⟨gb173, 1, none⟩ = some (.int .i64 a1_1) := (zqc BK173.out 1).trans rfl; have hcz26_2 : w25.cell? ⟨gb173, 2, none⟩ = some (.string a1_2) := (zqc BK173.out 2).trans rfl; have hcz26_3 : w25.cell? ⟨gb173, 3, none⟩ = some (.string a1_3) := (zqc BK173.out 3).trans rfl; have hcz26_4 : w25.cell? ⟨gb173, 4, none⟩ = some (.bool a1_4) := (zqc BK173.out 4).trans rfl; have hcz26_5 : w25.cell? ⟨gb173, 5, none⟩ = some (.string a1_5) := (zqc BK173.out 5).trans rfl; have hcz26_6 : w25.cell? ⟨gb173, 6, none⟩ = some (.int .i64 a1_6) := (zqc BK173.out 6).trans rfl; have hcz26_7 : w25.cell? ⟨gb173, 7, none⟩ = some (.bool a1_7) := (zqc BK173.out 7).trans rfl; have hcz26_8 : w25.cell? ⟨gb173, 8, none⟩ = some (.int .i64 a1_8) := (zqc BK173.out 8).trans rfl; have hcz26_9 : w25.cell? ⟨gb173, 9, none⟩ = some (.int .i64 a1_9) := (zqc BK173.out 9).trans rfl; have hcz26_10 : w25.cell? ⟨gb173, 10, none⟩ = some (.int .i64 a1_10) := (zqc BK173.out 10).trans rfl; have hfz26_0 := zqa BK173.out 0; have hfz26_1 := zqa BK173.out 1; have hfz26_2 := zqa BK173.out 2; have hfz26_3 := zqa BK173.out 3; have hfz26_4 := zqa BK173.out 4; have hfz26_5 := zqa BK173.out 5; have hfz26_6 := zqa BK173.out 6; have hfz26_7 := zqa BK173.out 7; have hfz26_8 := zqa BK173.out 8; have hfz26_9 := zqa BK173.out 9; have hfz26_10 := zqa BK173.out 10) | ((with_reducible refine gate_callee (f := 22) rfl ?_); refine goesL_ (some 53) rfl rfl Tryz.func22 (by kernel_rfl) rfl #[.slice A0 l0.length c0, .string a1_2, .string a1_3] rfl (by (try simp only [List.map_toArray, List.map_cons, List.map_nil]); first | done | rfl | (simp only [List.length_drop, List.length_take]; rfl)) ?_; (with_reducible refine (names_DropToxic.calls _ _ l0 a1_2 a1_3 t190 t191 _ ?side1 ?side2 A24.out).mono ?_); (case side1 => repeat (first | exact (Kd.C_below HR0.out HB.out) | (with_reducible refine Kd.C_alloc ?_ _) | (with_reducible refine Kd.C_drewN ?_ _) | (with_reducible refine Kd.C_drew ?_))); (case side2 => exact HC0.out); rintro e w27 ⟨v192, rfl, ho0, hb⟩; refine ⟨_, rfl, ?_⟩; have n0_ := zqd.mk (Kd.S_lower ho0 (below_size (by repeat (first | (with_reducible first | exact HB.out | apply zqj | apply zqb | apply zqf | refine zqk ?_ GE173.out) | exact HB.out)))); have n1_ := zqd.mk (blk_below (g := gb173) (o := .cells #[.int .i64 a1_0, .int .i64 a1_1, .string a1_2, .string a1_3, .bool a1_4, .string a1_5, .int .i64 a1_6, .bool a1_7, .int .i64 a1_8, .int .i64 a1_9, .int .i64 a1_10] 26 (0, 0)) (by (with_reducible repeat (first | refine zqg ?_ _ | refine zqi ?_ | refine zqh ?_ _)); exact BK173.out) hb); have n2_ := zqd.mk (below_step (by repeat (first | (with_reducible first | exact HB.out | apply zqj | apply zqb | apply zqf | refine zqk ?_ GE173.out) | exact HB.out)) hb); clear BK173; clear HB; have HO193 := n0_; have BK173 := n1_; have HB := n2_; clear n0_ n1_ n2_; (try clear hb); (try clear hb2); (try clear hk); (try clear hi); (try clear ho0)))
      go_ret2
      exact ⟨_, by first | rfl | (simp [errW_none, errW_some] <;> rfl) | (simp [*, errW_none, errW_some] <;> rfl), by (with_reducible repeat (first | apply Kd.S_alloc | apply Kd.S_drewN | apply Kd.S_drew)); exact HO193.out, by repeat (first | (with_reducible first | exact HB.out | apply zqj | apply zqb | apply zqf | refine zqk ?_ GE173.out) | exact HB.out)⟩
     ·rw [if_neg c23] at H
      have c23b0 : (a1_0 == 4) = false := beq_eq_false_iff_ne.mpr c23
      have c23b1 : (a1_0 != 4) = true := bne_iff_ne.mpr c23
      by_cases c28 : a1_0 = 5
      ·rw [if_pos c28] at H
       have c28b0 : (a1_0 == 5) = true := beq_iff_eq.mpr c28
       have c28b1 : (a1_0 != 5) = false := bne_eq_false_iff_eq.mpr c28
       clear c28
       replace H := Option.bind_eq_some_iff.mp H
       obtain ⟨⟨t194, t197⟩, A290, H⟩ := H
       replace H : (some (t194, t197)) = some (r1, r2) := H
       have A29 := zqd.mk A290
       clear A290
       simp only [Option.some.injEq, Prod.mk.injEq] at H
       obtain ⟨rfl, rfl⟩ := H
       go_enter Tryz.func9, Tryz.ntmps9
       go_wp2_with (first | ((with_reducible refine gate_dst (N := 3) rfl ?_); refine box_event ?hg (N := 3) ?hd (cs := #[.int .i64 a1_0, .int .i64 a1_1, .string a1_2, .string a1_3, .bool a1_4, .string a1_5, .int .i64 a1_6, .bool a1_7, .int .i64 a1_8, .int .i64 a1_9, .int .i64 a1_10]) (t := 26) ?hr ?_; (case hd => rfl); (case hg => rfl); (case hr => first | (go_simp; done) | (go_simp; rfl)); intro gb173 hg w30 hbox hb; have n0_ := zqd.mk (below_step (by repeat (first | (with_reducible first | exact HB.out | apply zqj | apply zqb | apply zqf) | exact HB.out)) hb); have n1_ := zqd.mk (hbox); have n2_ := zqd.mk ((by rw [hg]; exact (below_size (by repeat (first | (with_reducible first | exact HB.out | apply zqj | apply zqb | apply zqf) | exact HB.out))) : w.heap.size ≤ gb173)); have n3_ := zqd.mk ((by rw [hg]; exact (below_size (by repeat (first | (with_reducible first | exact HB.out | apply zqj | apply zqb | apply zqf) | exact HB.out))) : w.heap.size ≤ gb173)); clear HB; have HB := n0_; have BK173 := n1_; have GW173 := n2_; have GE173 := n3_; clear n0_ n1_ n2_ n3_; clear hb hbox hg; have hcz31_0 : w30.cell? ⟨gb173, 0, none⟩ = some (.int .i64 a1_0) := (zqc BK173.out 0).trans rfl; have hcz31_1 : w30.cell? ⟨gb173, 1, none⟩ = some (.int .i64 a1_1) := (zqc BK173.out 1).trans rfl; have hcz31_2 : w30.cell? ⟨gb173, 2, none⟩ = some (.string a1_2) := (zqc BK173.out 2).trans rfl; have hcz31_3 : w30.cell? ⟨gb173, 3, none⟩ = some (.string a1_3) := (zqc BK173.out 3).trans rfl; have hcz31_4 : w30.cell? ⟨gb173, 4, none⟩ = some (.bool a1_4) := (zqc BK173.out 4).trans rfl; have hcz31_5 : w30.cell? ⟨gb173, 5, none⟩ = some (.string a1_5) := (zqc BK173.out 5).trans rfl; have hcz31_6 : w30.cell? ⟨gb173, 6, none⟩ = some (.int .i64 a1_6) := (zqc BK173.out 6).trans rfl; have hcz31_7 : w30.cell? ⟨gb173, 7, none⟩ = some (.bool a1_7) := (zqc BK173.out 7).trans rfl; have hcz31_8 : w30.cell? ⟨gb173, 8, none⟩ = some (.int .i64 a1_8) := (zqc BK173.out 8).trans rfl; have hcz31_9 : w30.cell? ⟨gb173, 9, none⟩ = some (.int .i64 a1_9) := (zqc BK173.out 9).trans rfl; have hcz31_10 : w30.cell? ⟨gb173, 10, none⟩ = some (.int .i64 a1_10) := (zqc BK173.out 10).trans rfl; have hfz31_0 := zqa BK173.out 0; have hfz31_1 := zqa BK173.out 1; have hfz31_2 := zqa BK173.out 2; have hfz31_3 := zqa BK173.out 3; have hfz31_4 := zqa BK173.out 4; have hfz31_5 := zqa BK173.out 5; have hfz31_6 := zqa BK173.out 6; have hfz31_7 := zqa BK173.out 7; have hfz31_8 := zqa BK173.out 8; have hfz31_9 := zqa BK173.out 9; have hfz31_10 := zqa BK173.out 10) | ((with_reducible refine gate_callee (f := 23) rfl ?_); refine goesL_ (some 63) rfl rfl Tryz.func23 (by kernel_rfl) rfl #[.slice A0 l0.length c0, .string a1_2, .agg #[.string a1_5, .int .i64 a1_6, .bool a1_7, .int .i64 a1_8, .int .i64 a1_9, .int .i64 a1_10]] rfl (by (try simp only [List.map_toArray, List.map_cons, List.map_nil]); first | done | rfl | (simp only [List.length_drop, List.length_take]; rfl)) ?_; (with_reducible refine (names_SetToxic.calls _ _ l0 a1_2 a1_5 a1_6 a1_7 a1_8 a1_9 a1_10 t194 t197 _ ?side1 ?side2 A29.out).mono ?_); (case side1 => repeat (first | exact (Kd.C_below HR0.out HB.out) | (with_reducible refine Kd.C_alloc ?_ _) | (with_reducible refine Kd.C_drewN ?_ _) | (with_reducible refine Kd.C_drew ?_))); (case side2 => exact HC0.out); rintro e w32 ⟨v195, rfl, ho0, hb⟩; refine ⟨_, rfl, ?_⟩; have n0_ := zqd.mk (Kd.S_lower ho0 (below_size (by repeat (first | (with_reducible first | exact HB.out | apply zqj | apply zqb | apply zqf | refine zqk ?_ GE173.out) | exact HB.out)))); have n1_ := zqd.mk (blk_below (g := gb173) (o := .cells #[.int .i64 a1_0, .int .i64 a1_1, .string a1_2, .string a1_3, .bool a1_4, .string a1_5, .int .i64 a1_6, .bool a1_7, .int .i64 a1_8, .int .i64 a1_9, .int .i64 a1_10] 26 (0, 0)) (by (with_reducible repeat (first | refine zqg ?_ _ | refine zqi ?_ | refine zqh ?_ _)); exact BK173.out) hb); have n2_ := zqd.mk (below_step (by repeat (first | (with_reducible first | exact HB.out | apply zqj | apply zqb | apply zqf | refine zqk ?_ GE173.out) | exact HB.out)) hb); clear BK173; clear HB; have HO196 := n0_; have BK173 := n1_; have HB := n2_; clear n0_ n1_ n2_; (try clear hb); (try clear hb2); (try clear hk); (try clear hi); (try clear ho0)))
       go_ret2
       exact ⟨_, by first | rfl | (simp [errW_none, errW_some] <;> rfl) | (simp [*, errW_none, errW_some] <;> rfl), by (with_reducible repeat (first | apply Kd.S_alloc | apply Kd.S_drewN | apply Kd.S_drew)); exact HO196.out, by repeat (first | (with_reducible first | exact HB.out | apply zqj | apply zqb | apply zqf | refine zqk ?_ GE173.out) | exact HB.out)⟩
      ·rw [if_neg c28] at H
       have c28b0 : (a1_0 == 5) = false := beq_eq_false_iff_ne.mpr c28
       have c28b1 : (a1_0 != 5) = true := bne_iff_ne.mpr c28
       replace H := Option.bind_eq_some_iff.mp H
       obtain ⟨t198, A330, H⟩ := H
       replace H : (some (t198, 0)) = some (r1, r2) := H
       have A33 := zqd.mk A330
       clear A330
       simp only [Option.some.injEq, Prod.mk.injEq] at H
       obtain ⟨rfl, rfl⟩ := H
       go_enter Tryz.func9, Tryz.ntmps9
       go_wp2_with (first | ((with_reducible refine gate_dst (N := 3) rfl ?_); refine box_event ?hg (N := 3) ?hd (cs := #[.int .i64 a1_0, .int .i64 a1_1, .string a1_2, .string a1_3, .bool a1_4, .string a1_5, .int .i64 a1_6, .bool a1_7, .int .i64 a1_8, .int .i64 a1_9, .int .i64 a1_10]) (t := 26) ?hr ?_; (case hd => rfl); (case hg => rfl); (case hr => first | (go_simp; done) | (go_simp; rfl)); intro gb173 hg w34 hbox hb; have n0_ := zqd.mk (below_step (by repeat (first | (with_reducible first | exact HB.out | apply zqj | apply zqb | apply zqf) | exact HB.out)) hb); have n1_ := zqd.mk (hbox); have n2_ := zqd.mk ((by rw [hg]; exact (below_size (by repeat (first | (with_reducible first | exact HB.out | apply zqj | apply zqb | apply zqf) | exact HB.out))) : w.heap.size ≤ gb173)); have n3_ := zqd.mk ((by rw [hg]; exact (below_size (by repeat (first | (with_reducible first | exact HB.out | apply zqj | apply zqb | apply zqf) | exact HB.out))) : w.heap.size ≤ gb173)); clear HB; have HB := n0_; have BK173 := n1_; have GW173 := n2_; have GE173 := n3_; clear n0_ n1_ n2_ n3_; clear hb hbox hg; have hcz35_0 : w34.cell? ⟨gb173, 0, none⟩ = some (.int .i64 a1_0) := (zqc BK173.out 0).trans rfl; have hcz35_1 : w34.cell? ⟨gb173, 1, none⟩ = some (.int .i64 a1_1) := (zqc BK173.out 1).trans rfl; have hcz35_2 : w34.cell? ⟨gb173, 2, none⟩ = some (.string a1_2) := (zqc BK173.out 2).trans rfl; have hcz35_3 : w34.cell? ⟨gb173, 3, none⟩ = some (.string a1_3) := (zqc BK173.out 3).trans rfl; have hcz35_4 : w34.cell? ⟨gb173, 4, none⟩ = some (.bool a1_4) := (zqc BK173.out 4).trans rfl; have hcz35_5 : w34.cell? ⟨gb173, 5, none⟩ = some (.string a1_5) := (zqc BK173.out 5).trans rfl; have hcz35_6 : w34.cell? ⟨gb173, 6, none⟩ = some (.int .i64 a1_6) := (zqc BK173.out 6).trans rfl; have hcz35_7 : w34.cell? ⟨gb173, 7, none⟩ = some (.bool a1_7) := (zqc BK173.out 7).trans rfl; have hcz35_8 : w34.cell? ⟨gb173, 8, none⟩ = some (.int .i64 a1_8) := (zqc BK173.out 8).trans rfl; have hcz35_9 : w34.cell? ⟨gb173, 9, none⟩ = some (.int .i64 a1_9) := (zqc BK173.out 9).trans rfl; have hcz35_10 : w34.cell? ⟨gb173, 10, none⟩ = some (.int .i64 a1_10) := (zqc BK173.out 10).trans rfl; have hfz35_0 := zqa BK173.out 0; have hfz35_1 := zqa BK173.out 1; have hfz35_2 := zqa BK173.out 2; have hfz35_3 := zqa BK173.out 3; have hfz35_4 := zqa BK173.out 4; have hfz35_5 := zqa BK173.out 5; have hfz35_6 := zqa BK173.out 6; have hfz35_7 := zqa BK173.out 7; have hfz35_8 := zqa BK173.out 8; have hfz35_9 := zqa BK173.out 9; have hfz35_10 := zqa BK173.out 10) | ((with_reducible refine gate_callee (f := 24) rfl ?_); refine goesL_ (some 67) rfl rfl Tryz.func24 (by kernel_rfl) rfl #[.slice A0 l0.length c0] rfl (by (try simp only [List.map_toArray, List.map_cons, List.map_nil]); first | done | rfl | (simp only [List.length_drop, List.length_take]; rfl)) ?_; (with_reducible refine (names_Reset.calls k _ _ l0 t198 _ ?side1 ?side2 A33.out).mono ?_); (case side1 => repeat (first | exact (Kd.C_below HR0.out HB.out) | (with_reducible refine Kd.C_alloc ?_ _) | (with_reducible refine Kd.C_drewN ?_ _) | (with_reducible refine Kd.C_drew ?_))); (case side2 => exact HC0.out); rintro e w36 ⟨v199, rfl, ho0, hb⟩; refine ⟨_, rfl, ?_⟩; have n0_ := zqd.mk (Kd.S_lower ho0 (below_size (by repeat (first | (with_reducible first | exact HB.out | apply zqj | apply zqb | apply zqf | refine zqk ?_ GE173.out) | exact HB.out)))); have n1_ := zqd.mk (blk_below (g := gb173) (o := .cells #[.int .i64 a1_0, .int .i64 a1_1, .string a1_2, .string a1_3, .bool a1_4, .string a1_5, .int .i64 a1_6, .bool a1_7, .int .i64 a1_8, .int .i64 a1_9, .int .i64 a1_10] 26 (0, 0)) (by (with_reducible repeat (first | refine zqg ?_ _ | refine zqi ?_ | refine zqh ?_ _)); exact BK173.out) hb); have n2_ := zqd.mk (below_step (by repeat (first | (with_reducible first | exact HB.out | apply zqj | apply zqb | apply zqf | refine zqk ?_ GE173.out) | exact HB.out)) hb); clear BK173; clear HB; have HO200 := n0_; have BK173 := n1_; have HB := n2_; clear n0_ n1_ n2_; (try clear hb); (try clear hb2); (try clear hk); (try clear hi); (try clear ho0)))
       go_ret2
       exact ⟨_, by first | rfl | (simp [errW_none, errW_some] <;> rfl) | (simp [*, errW_none, errW_some] <;> rfl), by (with_reducible repeat (first | apply Kd.S_alloc | apply Kd.S_drewN | apply Kd.S_drew)); exact HO200.out, by repeat (first | (with_reducible first | exact HB.out | apply zqj | apply zqb | apply zqf | refine zqk ?_ GE173.out) | exact HB.out)⟩
def chicaneref14_find.l0 : Nat → List (S24) → ByteArray → Int → Option (Int)
 | 0, _, _, _ => none
 | k + 1, x0, x1, x5 => if x5 < (x0.length : Int) then (if 0 ≤ x5 then (if ((rd_T24 x0 x5).f0).toList = x1.toList then (some x5) else (chicaneref14_find.l0 k x0 x1 (wrap64 (x5 + 1)))) else (none)) else (some (-1))
def chicaneref14_find.f (k : Nat) (l0 : List (S24)) (a1 : ByteArray) : Option (Int) := chicaneref14_find.l0 k l0 a1 0
theorem chicaneref14_find.mono_l : ∀ k, (∀ y0 y1 y2, LeO (chicaneref14_find.l0 k y0 y1 y2) (chicaneref14_find.l0 (k + 1) y0 y1 y2))
 | 0 => fun _ _ _ r h => by simp [chicaneref14_find.l0] at h
 | k + 1 => by
  have ih0 := chicaneref14_find.mono_l k
  ·intro y0 y1 y2
   unfold chicaneref14_find.l0
   repeat' first
   | (with_reducible exact ih0 _ _ _)
   | (with_reducible exact LeO.refl _)
   | (with_reducible exact LeO.none _)
   | (with_reducible refine LeO.ite ?_ ?_)
   | (with_reducible refine LeO.bind ?_ (fun _ => ?_))
   | exact ih0 _ _ _
   | exact LeO.none _
   | refine LeO.ite ?_ ?_
   | refine LeO.bind ?_ (fun _ => ?_)
theorem chicaneref14_find.mono : ∀ a0 a1 k, LeO (chicaneref14_find.f k a0 a1) (chicaneref14_find.f (k + 1) a0 a1) := by
 intro a0 a1 k
 have ih0 := chicaneref14_find.mono_l k
 unfold chicaneref14_find.f
 repeat' first
   | (with_reducible exact ih0 _ _ _)
   | (with_reducible exact LeO.refl _)
   | (with_reducible exact LeO.none _)
   | (with_reducible refine LeO.ite ?_ ?_)
   | (with_reducible refine LeO.bind ?_ (fun _ => ?_))
   | exact ih0 _ _ _
   | exact LeO.none _
   | refine LeO.ite ?_ ?_
   | refine LeO.bind ?_ (fun _ => ?_)
set_option maxHeartbeats 8000000 in
set_option maxRecDepth 100000 in
theorem chicaneref14_find.calls (k : Nat) (A0 : Option Addr) (c0 : Nat) (l0 : List (S24)) (a1 : ByteArray) (r : Int) (w : World) (hr0 : Kd.C k24 w A0 l0.length l0) (hc0 : l0.length ≤ c0) (h : chicaneref14_find.f k l0 a1 = some r) :
  Calls Tryz.prog 57 #[.slice A0 l0.length c0, .string a1] w fun e w' => e = .returned (.int .i64 r) ∧ Drawn0 w w' := by
 have HR0 := zqd.mk hr0
 have HC0 := zqd.mk hc0
 clear hr0 hc0
 have H : (chicaneref14_find.l0 k l0 a1 0) = some r := h
 clear h
 have H' := zqd.mk H
 clear H
 go_enter Tryz.func57, Tryz.ntmps57
 go_wp2
 go_loopg [5] k (fun kq v5 w' => ∃ (x5_1 : Int), v5 = .int .i64 x5_1 ∧ zqd (chicaneref14_find.l0 kq l0 a1 x5_1 = some r) ∧ zqd (kq ≤ k) ∧ Drawn0 w w')
 case atStart => exact ⟨(0), (by first | rfl | (simp; done) | (simp [*]; done)), H', ⟨Nat.le_refl _⟩, by repeat (first | exact Drawn0.refl _ | apply Drawn0.step)⟩
 case round =>
  clear H'
  try clear p2
  obtain ⟨x5_1, rfl, HA, HK1, ⟨m1, rfl⟩⟩ := hrel
  cases gk with
  | zero => exact absurd HA.out (by simp [chicaneref14_find.l0])
  | succ k1 =>
   have H := HA.out
   clear HA
   simp only [chicaneref14_find.l0] at H
   by_cases c3 : x5_1 < (l0.length : Int)
   ·rw [if_pos c3] at H
    have c3b0 : decide (x5_1 < (l0.length : Int)) = true := decide_eq_true c3
    clear c3
    by_cases c4 : 0 ≤ x5_1
    ·rw [if_pos c4] at H
     have c4b0 : decide (0 ≤ x5_1) = true := decide_eq_true c4
     clear c4
     by_cases c5 : ((rd_T24 l0 x5_1).f0).toList = a1.toList
     ·rw [if_pos c5] at H
      have c5b0 : (((rd_T24 l0 x5_1).f0).toList == a1.toList) = true := beq_iff_eq.mpr c5
      have c5b1 : (((rd_T24 l0 x5_1).f0).toList != a1.toList) = false := bne_eq_false_iff_eq.mpr c5
      clear c5
      obtain rfl := Option.some.inj H
      have p201 : 0 ≤ (x5_1 : Int) := of_decide_eq_true (by first | (with_reducible assumption) | assumption)
      have q201 : x5_1 < (l0.length : Int) := of_decide_eq_true (by first | (with_reducible assumption) | assumption)
      obtain ⟨ad201, e201, hx201_0, hx201_1, hx201_2, hx201_3, hx201_4, hx201_5⟩ := at_T24 HR0.out x5_1 p201 q201
      cases e201
      replace p201 := eq_true p201
      replace q201 := eq_true q201
      go_wp2
      go_ret
      exact ⟨by first | rfl | (simp; done) | (simp [*]; done), by repeat (first | exact Drawn0.refl _ | apply Drawn0.step)⟩
     ·rw [if_neg c5] at H
      have c5b0 : (((rd_T24 l0 x5_1).f0).toList == a1.toList) = false := beq_eq_false_iff_ne.mpr c5
      have c5b1 : (((rd_T24 l0 x5_1).f0).toList != a1.toList) = true := bne_iff_ne.mpr c5
      have H' := zqd.mk H
      clear H
      have p201 : 0 ≤ (x5_1 : Int) := of_decide_eq_true (by first | (with_reducible assumption) | assumption)
      have q201 : x5_1 < (l0.length : Int) := of_decide_eq_true (by first | (with_reducible assumption) | assumption)
      obtain ⟨ad201, e201, hx201_0, hx201_1, hx201_2, hx201_3, hx201_4, hx201_5⟩ := at_T24 HR0.out x5_1 p201 q201
      cases e201
      replace p201 := eq_true p201
      replace q201 := eq_true q201
      go_wp2
      go_roundg k1
      case measure => have := HK1.out; omega
      case rel => exact ⟨(wrap64 (x5_1 + 1)), (by first | rfl | (simp; done) | (simp [*]; done)), H', ⟨by have := HK1.out; omega⟩, by repeat (first | exact Drawn0.refl _ | apply Drawn0.step)⟩
    ·rw [if_neg c4] at H
     exact absurd H (by simp)
   ·rw [if_neg c3] at H
    have c3b0 : decide (x5_1 < (l0.length : Int)) = false := decide_eq_false c3
    clear c3
    obtain rfl := Option.some.inj H
    go_wp2
    go_ret
    exact ⟨by first | rfl | (simp; done) | (simp [*]; done), by repeat (first | exact Drawn0.refl _ | apply Drawn0.step)⟩
end Go.Proofs.YtlglbpjccpdloaaGreat.PNamA
namespace Go.Proofs.YtlglbpjccpdloaaGreat.PNamA
open Go.Proofs.YtlglbpjccpdloaaGreat.Ext Go.Proofs.YtlglbpjccpdloaaGreat.ToxZ Go.RowKit Go.Proofs.YtlglbpjccpdloaaGreatW.PrintWords Go.Proofs.YtlglbpjccpdloaaGreatW.PrintLast Go.Proofs.YtlglbpjccpdloaaGreatW.PrintMore
attribute [local go_sem] max2_int min2_int max_two min_two max_three min_three max_four min_four   -- for this text's walks alone
set_option linter.unusedVariables false
set_option linter.unusedSimpArgs false
mutual
def chicaneref14_Check.j0 : Nat → Bool → ByteArray → Bool → Int → List (S24) → Option (Int)
 | 0, _, _, _, _, _ => none
 | k + 1, x17, x203000, x203001, x203002, x203003 => if x17 = true then (some 144) else (if (x203003.length : Int) > 8 then (some 143) else (chicaneref14_Check.l0 k 0 x203000 x203001 x203002 x203003))
def chicaneref14_Check.l0 : Nat → Int → ByteArray → Bool → Int → List (S24) → Option (Int)
 | 0, _, _, _, _, _ => none
 | k + 1, x3, x203000, x203001, x203002, x203003 => if x3 < (x203003.length : Int) then (if 0 ≤ x3 then ((chicaneref09_Check.f ((rd_T24 x203003 x3).f0) ((rd_T24 x203003 x3).f1) ((rd_T24 x203003 x3).f2) ((rd_T24 x203003 x3).f3) ((rd_T24 x203003 x3).f4) ((rd_T24 x203003 x3).f5)).bind fun t205 => (if t205 = 0 then (chicaneref14_Check.l0 k (wrap64 (x3 + 1)) x203000 x203001 x203002 x203003) else (some t205))) else (none)) else (chicaneref14_Check.l1 k 0 x203000 x203001 x203002 x203003)
def chicaneref14_Check.l1 : Nat → Int → ByteArray → Bool → Int → List (S24) → Option (Int)
 | 0, _, _, _, _, _ => none
 | k + 1, x5, x203000, x203001, x203002, x203003 => if x5 < (x203003.length : Int) then (if 0 ≤ x5 then (if x5 ≤ (x203003.length : Int) then ((chicaneref14_find.f k (x203003.take (x5 : Int).toNat) ((rd_T24 x203003 x5).f0)).bind fun t211 => (if t211 ≥ 0 then (some 141) else (chicaneref14_Check.l1 k (wrap64 (x5 + 1)) x203000 x203001 x203002 x203003))) else (none)) else (none)) else (some 0)
end
def chicaneref14_Check.f (k : Nat) (a0_0 : ByteArray) (a0_1 : Bool) (a0_2 : Int) (l0_3 : List (S24)) : Option (Int) := (chicaneref09_Name.f a0_0).bind fun t203 => (if t203 = true then (if a0_2 < 1 then (chicaneref14_Check.j0 k true a0_0 a0_1 a0_2 l0_3) else (chicaneref14_Check.j0 k (decide (a0_2 > 16)) a0_0 a0_1 a0_2 l0_3)) else (some 140))
theorem chicaneref14_Check.mono_l : ∀ k, (∀ y0 y1 y2 y3 y4, LeO (chicaneref14_Check.j0 k y0 y1 y2 y3 y4) (chicaneref14_Check.j0 (k + 1) y0 y1 y2 y3 y4)) ∧ (∀ y0 y1 y2 y3 y4, LeO (chicaneref14_Check.l0 k y0 y1 y2 y3 y4) (chicaneref14_Check.l0 (k + 1) y0 y1 y2 y3 y4)) ∧ (∀ y0 y1 y2 y3 y4, LeO (chicaneref14_Check.l1 k y0 y1 y2 y3 y4) (chicaneref14_Check.l1 (k + 1) y0 y1 y2 y3 y4))
 | 0 => ⟨fun _ _ _ _ _ r h => by simp [chicaneref14_Check.j0] at h, fun _ _ _ _ _ r h => by simp [chicaneref14_Check.l0] at h, fun _ _ _ _ _ r h => by simp [chicaneref14_Check.l1] at h⟩
 | k + 1 => by
  obtain ⟨ih0, ih1, ih2⟩ := chicaneref14_Check.mono_l k
  refine ⟨?_, ?_, ?_⟩
  ·intro y0 y1 y2 y3 y4
   unfold chicaneref14_Check.j0
   repeat' first
   | (with_reducible exact ih0 _ _ _ _ _)
   | (with_reducible exact ih1 _ _ _ _ _)
   | (with_reducible exact ih2 _ _ _ _ _)
   | (with_reducible exact chicaneref14_find.mono _ _ _)
   | (with_reducible exact LeO.refl _)
   | (with_reducible exact LeO.none _)
   | (with_reducible refine LeO.ite ?_ ?_)
   | (with_reducible refine LeO.bind ?_ (fun _ => ?_))
   | exact ih0 _ _ _ _ _
   | exact ih1 _ _ _ _ _
   | exact ih2 _ _ _ _ _
   | exact chicaneref14_find.mono _ _ _
   | exact LeO.none _
   | refine LeO.ite ?_ ?_
   | refine LeO.bind ?_ (fun _ => ?_)
  ·intro y0 y1 y2 y3 y4
   unfold chicaneref14_Check.l0
   repeat' first
   | (with_reducible exact ih0 _ _ _ _ _)
   | (with_reducible exact ih1 _ _ _ _ _)
   | (with_reducible exact ih2 _ _ _ _ _)
   | (with_reducible exact chicaneref14_find.mono _ _ _)
   | (with_reducible exact LeO.refl _)
   | (with_reducible exact LeO.none _)
   | (with_reducible refine LeO.ite ?_ ?_)
   | (with_reducible refine LeO.bind ?_ (fun _ => ?_))
   | exact ih0 _ _ _ _ _
   | exact ih1 _ _ _ _ _
   | exact ih2 _ _ _ _ _
   | exact chicaneref14_find.mono _ _ _
   | exact LeO.none _
   | refine LeO.ite ?_ ?_
   | refine LeO.bind ?_ (fun _ => ?_)
  ·intro y0 y1 y2 y3 y4
   unfold chicaneref14_Check.l1
   repeat' first
   | (with_reducible exact ih0 _ _ _ _ _)
   | (with_reducible exact ih1 _ _ _ _ _)
   | (with_reducible exact ih2 _ _ _ _ _)
   | (with_reducible exact chicaneref14_find.mono _ _ _)
   | (with_reducible exact LeO.refl _)
   | (with_reducible exact LeO.none _)
   | (with_reducible refine LeO.ite ?_ ?_)
   | (with_reducible refine LeO.bind ?_ (fun _ => ?_))
   | exact ih0 _ _ _ _ _
   | exact ih1 _ _ _ _ _
   | exact ih2 _ _ _ _ _
   | exact chicaneref14_find.mono _ _ _
   | exact LeO.none _
   | refine LeO.ite ?_ ?_
   | refine LeO.bind ?_ (fun _ => ?_)
theorem chicaneref14_Check.mono : ∀ a0 a1 a2 a3 k, LeO (chicaneref14_Check.f k a0 a1 a2 a3) (chicaneref14_Check.f (k + 1) a0 a1 a2 a3) := by
 intro a0 a1 a2 a3 k
 obtain ⟨ih0, ih1, ih2⟩ := chicaneref14_Check.mono_l k
 unfold chicaneref14_Check.f
 repeat' first
   | (with_reducible exact ih0 _ _ _ _ _)
   | (with_reducible exact ih1 _ _ _ _ _)
   | (with_reducible exact ih2 _ _ _ _ _)
   | (with_reducible exact chicaneref14_find.mono _ _ _)
   | (with_reducible exact LeO.refl _)
   | (with_reducible exact LeO.none _)
   | (with_reducible refine LeO.ite ?_ ?_)
   | (with_reducible refine LeO.bind ?_ (fun _ => ?_))
   | exact ih0 _ _ _ _ _
   | exact ih1 _ _ _ _ _
   | exact ih2 _ _ _ _ _
   | exact chicaneref14_find.mono _ _ _
   | exact LeO.none _
   | refine LeO.ite ?_ ?_
   | refine LeO.bind ?_ (fun _ => ?_)
set_option maxHeartbeats 8000000 in
set_option maxRecDepth 100000 in
theorem chicaneref14_Check.calls (k : Nat) (a0_0 : ByteArray) (a0_1 : Bool) (a0_2 : Int) (A0_3 : Option Addr) (c0_3 : Nat) (l0_3 : List (S24)) (r : Int) (w : World) (hr0_3 : Kd.C k24 w A0_3 l0_3.length l0_3) (hc0_3 : l0_3.length ≤ c0_3) (h : chicaneref14_Check.f k a0_0 a0_1 a0_2 l0_3 = some r) :
  Calls Tryz.prog 27 #[.agg #[.string a0_0, .bool a0_1, .int .i64 a0_2, .slice A0_3 l0_3.length c0_3]] w fun e w' => e = .returned (.int .i64 r) ∧ Below w.heap.size w w' := by
 have hu39 := Tryz.underlying39
 have hu24 := Tryz.underlying24
 have HR0_3 := zqd.mk hr0_3
 have HC0_3 := zqd.mk hc0_3
 clear hr0_3 hc0_3
 have HB := zqd.mk (Below.refl w.heap.size w)
 have H : ((chicaneref09_Name.f a0_0).bind fun t203 => (if t203 = true then (if a0_2 < 1 then (chicaneref14_Check.j0 k true a0_0 a0_1 a0_2 l0_3) else (chicaneref14_Check.j0 k (decide (a0_2 > 16)) a0_0 a0_1 a0_2 l0_3)) else (some 140))) = some r := h
 clear h
 replace H := Option.bind_eq_some_iff.mp H
 obtain ⟨t203, A20, H⟩ := H
 replace H : (if t203 = true then (if a0_2 < 1 then (chicaneref14_Check.j0 k true a0_0 a0_1 a0_2 l0_3) else (chicaneref14_Check.j0 k (decide (a0_2 > 16)) a0_0 a0_1 a0_2 l0_3)) else (some 140)) = some r := H
 have A2 := zqd.mk A20
 clear A20
 by_cases c3 : t203 = true
 ·subst c3
  have H1 : (if a0_2 < 1 then (chicaneref14_Check.j0 k true a0_0 a0_1 a0_2 l0_3) else (chicaneref14_Check.j0 k (decide (a0_2 > 16)) a0_0 a0_1 a0_2 l0_3)) = some r := by rw [if_pos rfl] at H; exact H
  clear H
  have H := H1
  clear H1
  have HC4 := zqd.mk H
  clear H
  go_enter Tryz.func27, Tryz.ntmps27
  go_upto_region 3 with (first | ((with_reducible refine gate_dst (N := 1) rfl ?_); refine box_event ?hg (N := 1) ?hd (cs := #[.string a0_0, .bool a0_1, .int .i64 a0_2, .slice A0_3 l0_3.length c0_3]) (t := 39) ?hr ?_; (case hd => rfl); (case hg => rfl); (case hr => first | (go_simp; done) | (go_simp; rfl)); intro gb202 hg w5 hbox hb; have n0_ := zqd.mk (below_step (by repeat (first | (with_reducible first | exact HB.out | apply zqj | apply zqb | apply zqf) | exact HB.out)) hb); have n1_ := zqd.mk (hbox); have n2_ := zqd.mk ((by rw [hg]; exact (below_size (by repeat (first | (with_reducible first | exact HB.out | apply zqj | apply zqb | apply zqf) | exact HB.out))) : w.heap.size ≤ gb202)); have n3_ := zqd.mk ((by rw [hg]; exact (below_size (by repeat (first | (with_reducible first | exact HB.out | apply zqj | apply zqb | apply zqf) | exact HB.out))) : w.heap.size ≤ gb202)); clear HB; have HB := n0_; have BK202 := n1_; have GW202 := n2_; have GE202 := n3_; clear n0_ n1_ n2_ n3_; clear hb hbox hg; have hcz6_0 : w5.cell? ⟨gb202, 0, none⟩ = some (.string a0_0) := (zqc BK202.out 0).trans rfl; have hcz6_1 : w5.cell? ⟨gb202, 1, none⟩ = some (.bool a0_1) := (zqc BK202.out 1).trans rfl; have hcz6_2 : w5.cell? ⟨gb202, 2, none⟩ = some (.int .i64 a0_2) := (zqc BK202.out 2).trans rfl; have hcz6_3 : w5.cell? ⟨gb202, 3, none⟩ = some (.slice A0_3 l0_3.length c0_3) := (zqc BK202.out 3).trans rfl; have hfz6_0 := zqa BK202.out 0; have hfz6_1 := zqa BK202.out 1; have hfz6_2 := zqa BK202.out 2; have hfz6_3 := zqa BK202.out 3) | (go_at_call 54; (with_reducible refine (chicaneref09_Name.calls a0_0 true _ A2.out).mono ?_); rintro e w7 ⟨rfl, hb⟩; have n0_ := zqd.mk (blk_below (g := gb202) (o := .cells #[.string a0_0, .bool a0_1, .int .i64 a0_2, .slice A0_3 l0_3.length c0_3] 39 (0, 0)) (by (with_reducible repeat (first | refine zqg ?_ _ | refine zqi ?_ | refine zqh ?_ _)); exact BK202.out) hb); have n1_ := zqd.mk (below_step (by repeat (first | (with_reducible first | exact HB.out | apply zqj | apply zqb | apply zqf | refine zqk ?_ GE202.out) | exact HB.out)) hb); clear BK202; clear HB; have BK202 := n0_; have HB := n1_; clear n0_ n1_; (try clear hb); (try clear hb2); (try clear hk); (try clear hi)))
  repeat (go_quiet (first | ((with_reducible refine gate_dst (N := 1) rfl ?_); refine box_event ?hg (N := 1) ?hd (cs := #[.string a0_0, .bool a0_1, .int .i64 a0_2, .slice A0_3 l0_3.length c0_3]) (t := 39) ?hr ?_; (case hd => rfl); (case hg => rfl); (case hr => first | (go_simp; done) | (go_simp; rfl)); intro gb202 hg w5 hbox hb; have n0_ := zqd.mk (below_step (by repeat (first | (with_reducible first | exact HB.out | apply zqj | apply zqb | apply zqf) | exact HB.out)) hb); have n1_ := zqd.mk (hbox); have n2_ := zqd.mk ((by rw [hg]; exact (below_size (by repeat (first | (with_reducible first | exact HB.out | apply zqj | apply zqb | apply zqf) | exact HB.out))) : w.heap.size ≤ gb202)); have n3_ := zqd.mk ((by rw [hg]; exact (below_size (by repeat (first | (with_reducible first | exact HB.out | apply zqj | apply zqb | apply zqf) | exact HB.out))) : w.heap.size ≤ gb202)); clear HB; have HB := n0_; have BK202 := n1_; have GW202 := n2_; have GE202 := n3_; clear n0_ n1_ n2_ n3_; clear hb hbox hg; have hcz6_0 : w5.cell? ⟨gb202, 0, none⟩ = some (.string a0_0) := (zqc BK202.out 0).trans rfl; have hcz6_1 : w5.cell? ⟨gb202, 1, none⟩ = some (.bool a0_1) := (zqc BK202.out 1).trans rfl; have hcz6_2 : w5.cell? ⟨gb202, 2, none⟩ = some (.int .i64 a0_2) := (zqc BK202.out 2).trans rfl; have hcz6_3 : w5.cell? ⟨gb202, 3, none⟩ = some (.slice A0_3 l0_3.length c0_3) := (zqc BK202.out 3).trans rfl; have hfz6_0 := zqa BK202.out 0; have hfz6_1 := zqa BK202.out 1; have hfz6_2 := zqa BK202.out 2; have hfz6_3 := zqa BK202.out 3) | (go_at_call 54; (with_reducible refine (chicaneref09_Name.calls a0_0 true _ A2.out).mono ?_); rintro e w7 ⟨rfl, hb⟩; have n0_ := zqd.mk (blk_below (g := gb202) (o := .cells #[.string a0_0, .bool a0_1, .int .i64 a0_2, .slice A0_3 l0_3.length c0_3] 39 (0, 0)) (by (with_reducible repeat (first | refine zqg ?_ _ | refine zqi ?_ | refine zqh ?_ _)); exact BK202.out) hb); have n1_ := zqd.mk (below_step (by repeat (first | (with_reducible first | exact HB.out | apply zqj | apply zqb | apply zqf | refine zqk ?_ GE202.out) | exact HB.out)) hb); clear BK202; clear HB; have BK202 := n0_; have HB := n1_; clear n0_ n1_; (try clear hb); (try clear hb2); (try clear hk); (try clear hi))); go_upto_region 3 with (first | ((with_reducible refine gate_dst (N := 1) rfl ?_); refine box_event ?hg (N := 1) ?hd (cs := #[.string a0_0, .bool a0_1, .int .i64 a0_2, .slice A0_3 l0_3.length c0_3]) (t := 39) ?hr ?_; (case hd => rfl); (case hg => rfl); (case hr => first | (go_simp; done) | (go_simp; rfl)); intro gb202 hg w5 hbox hb; have n0_ := zqd.mk (below_step (by repeat (first | (with_reducible first | exact HB.out | apply zqj | apply zqb | apply zqf) | exact HB.out)) hb); have n1_ := zqd.mk (hbox); have n2_ := zqd.mk ((by rw [hg]; exact (below_size (by repeat (first | (with_reducible first | exact HB.out | apply zqj | apply zqb | apply zqf) | exact HB.out))) : w.heap.size ≤ gb202)); have n3_ := zqd.mk ((by rw [hg]; exact (below_size (by repeat (first | (with_reducible first | exact HB.out | apply zqj | apply zqb | apply zqf) | exact HB.out))) : w.heap.size ≤ gb202)); clear HB; have HB := n0_; have BK202 := n1_; have GW202 := n2_; have GE202 := n3_; clear n0_ n1_ n2_ n3_; clear hb hbox hg; have hcz6_0 : w5.cell? ⟨gb202, 0, none⟩ = some (.string a0_0) := (zqc BK202.out 0).trans rfl; have hcz6_1 : w5.cell? ⟨gb202, 1, none⟩ = some (.bool a0_1) := (zqc BK202.out 1).trans rfl; have hcz6_2 : w5.cell? ⟨gb202, 2, none⟩ = some (.int .i64 a0_2) := (zqc BK202.out 2).trans rfl; have hcz6_3 : w5.cell? ⟨gb202, 3, none⟩ = some (.slice A0_3 l0_3.length c0_3) := (zqc BK202.out 3).trans rfl; have hfz6_0 := zqa BK202.out 0; have hfz6_1 := zqa BK202.out 1; have hfz6_2 := zqa BK202.out 2; have hfz6_3 := zqa BK202.out 3) | (go_at_call 54; (with_reducible refine (chicaneref09_Name.calls a0_0 true _ A2.out).mono ?_); rintro e w7 ⟨rfl, hb⟩; have n0_ := zqd.mk (blk_below (g := gb202) (o := .cells #[.string a0_0, .bool a0_1, .int .i64 a0_2, .slice A0_3 l0_3.length c0_3] 39 (0, 0)) (by (with_reducible repeat (first | refine zqg ?_ _ | refine zqi ?_ | refine zqh ?_ _)); exact BK202.out) hb); have n1_ := zqd.mk (below_step (by repeat (first | (with_reducible first | exact HB.out | apply zqj | apply zqb | apply zqf | refine zqk ?_ GE202.out) | exact HB.out)) hb); clear BK202; clear HB; have BK202 := n0_; have HB := n1_; clear n0_ n1_; (try clear hb); (try clear hb2); (try clear hk); (try clear hi))))
  (try simp only [Act.put, List.setIfInBounds_toArray, List.set_cons_zero, List.set_cons_succ])
  go_cut [17] (fun v17 wc => ∃ (kq : Nat) (x17_3 : Bool), v17 = .bool x17_3 ∧ zqd (chicaneref14_Check.j0 kq x17_3 a0_0 a0_1 a0_2 l0_3 = some r) ∧ zqd (kq ≤ k) ∧ zqd (wc.heap[gb202]? = some (.cells #[.string a0_0, .bool a0_1, .int .i64 a0_2, (.slice A0_3 l0_3.length c0_3)] 39 (0, 0))) ∧ zqd (Below w.heap.size w wc))
  case first =>
   have H := HC4.out
   clear HC4
   by_cases c8 : a0_2 < 1
   ·rw [if_pos c8] at H
    have c8b0 : decide (a0_2 < 1) = true := decide_eq_true c8
    clear c8
    (first | rw [c8b0] | (simp only [i64_w, i32_w]; rw [c8b0]) | skip)
    have H' := zqd.mk H
    clear H
    have hcz9_0 : w7.cell? ⟨gb202, 0, none⟩ = some (.string a0_0) := (zqc BK202.out 0).trans rfl
    have hcz9_1 : w7.cell? ⟨gb202, 1, none⟩ = some (.bool a0_1) := (zqc BK202.out 1).trans rfl
    have hcz9_2 : w7.cell? ⟨gb202, 2, none⟩ = some (.int .i64 a0_2) := (zqc BK202.out 2).trans rfl
    have hcz9_3 : w7.cell? ⟨gb202, 3, none⟩ = some (.slice A0_3 l0_3.length c0_3) := (zqc BK202.out 3).trans rfl
    have hfz9_0 := zqa BK202.out 0
    have hfz9_1 := zqa BK202.out 1
    have hfz9_2 := zqa BK202.out 2
    have hfz9_3 := zqa BK202.out 3
    go_wp2
    repeat (go_quiet (fail); try go_wp2)
    go_meet
    case rel => exact ⟨_, (true), (by first | rfl | (simp; done) | (simp [*]; done)), H', ⟨by first | omega | exact Nat.le_refl _⟩, ⟨by (with_reducible repeat (first | refine zqg ?_ _ | refine zqi ?_ | refine zqh ?_ _)); exact BK202.out⟩, ⟨by repeat (first | (with_reducible first | exact HB.out | apply zqj | apply zqb | apply zqf | refine zqk ?_ GE202.out) | exact HB.out)⟩⟩
   ·rw [if_neg c8] at H
    have c8b0 : decide (a0_2 < 1) = false := decide_eq_false c8
    clear c8
    (first | rw [c8b0] | (simp only [i64_w, i32_w]; rw [c8b0]) | skip)
    have H' := zqd.mk H
    clear H
    have hcz10_0 : w7.cell? ⟨gb202, 0, none⟩ = some (.string a0_0) := (zqc BK202.out 0).trans rfl
    have hcz10_1 : w7.cell? ⟨gb202, 1, none⟩ = some (.bool a0_1) := (zqc BK202.out 1).trans rfl
    have hcz10_2 : w7.cell? ⟨gb202, 2, none⟩ = some (.int .i64 a0_2) := (zqc BK202.out 2).trans rfl
    have hcz10_3 : w7.cell? ⟨gb202, 3, none⟩ = some (.slice A0_3 l0_3.length c0_3) := (zqc BK202.out 3).trans rfl
    have hfz10_0 := zqa BK202.out 0
    have hfz10_1 := zqa BK202.out 1
    have hfz10_2 := zqa BK202.out 2
    have hfz10_3 := zqa BK202.out 3
    go_wp2
    repeat (go_quiet (fail); try go_wp2)
    go_meet
    case rel => exact ⟨_, (decide (a0_2 > 16)), (by first | rfl | (simp; done) | (simp [*]; done)), H', ⟨by first | omega | exact Nat.le_refl _⟩, ⟨by (with_reducible repeat (first | refine zqg ?_ _ | refine zqi ?_ | refine zqh ?_ _)); exact BK202.out⟩, ⟨by repeat (first | (with_reducible first | exact HB.out | apply zqj | apply zqb | apply zqf | refine zqk ?_ GE202.out) | exact HB.out)⟩⟩
  case rest =>
   clear HC4
   try clear c2
   try clear p2
   try clear c3
   try clear c8
   try clear c8b0
   try clear hcz10_0
   try clear hcz10_1
   try clear hcz10_2
   try clear hcz10_3
   try clear hcz6_0
   try clear hcz6_1
   try clear hcz6_2
   try clear hcz6_3
   try clear hcz9_0
   try clear hcz9_1
   try clear hcz9_2
   try clear hcz9_3
   try clear hfz10_0
   try clear hfz10_1
   try clear hfz10_2
   try clear hfz10_3
   try clear hfz6_0
   try clear hfz6_1
   try clear hfz6_2
   try clear hfz6_3
   try clear hfz9_0
   try clear hfz9_1
   try clear hfz9_2
   try clear hfz9_3
   obtain ⟨kq, x17_3, rfl, HA, HJ3, BK202, HB⟩ := hcut
   cases kq with
   | zero => exact absurd HA.out (by simp [chicaneref14_Check.j0])
   | succ kj3 =>
    have H := HA.out
    clear HA
    simp only [chicaneref14_Check.j0] at H
    by_cases c11 : x17_3 = true
    ·subst c11
     have H1 : (some 144) = some r := by rw [if_pos rfl] at H; exact H
     clear H
     have H := H1
     clear H1
     obtain rfl := Option.some.inj H
     go_wp2
     repeat (go_quiet (fail); try go_wp2)
     go_ret
     exact ⟨by first | rfl | (simp [errW_none, errW_some] <;> rfl) | (simp [*, errW_none, errW_some] <;> rfl), by repeat (first | (with_reducible first | exact HB.out | apply zqj | apply zqb | apply zqf | refine zqk ?_ GE202.out) | exact HB.out)⟩
    ·replace c11 := Bool.eq_false_iff.mpr c11
     subst c11
     have H1 : (if (l0_3.length : Int) > 8 then (some 143) else (chicaneref14_Check.l0 kj3 0 a0_0 a0_1 a0_2 l0_3)) = some r := by rw [if_neg (show ¬ (false = true) by decide)] at H; exact H
     clear H
     have H := H1
     clear H1
     by_cases c12 : (l0_3.length : Int) > 8
     ·rw [if_pos c12] at H
      have c12b0 : decide (8 < (l0_3.length : Int)) = true := decide_eq_true c12
      have c12b1 : decide (8 < l0_3.length) = true := decide_eq_true (by omega)
      clear c12
      obtain rfl := Option.some.inj H
      have hcz13_0 : wc.cell? ⟨gb202, 0, none⟩ = some (.string a0_0) := (zqc BK202.out 0).trans rfl
      have hcz13_1 : wc.cell? ⟨gb202, 1, none⟩ = some (.bool a0_1) := (zqc BK202.out 1).trans rfl
      have hcz13_2 : wc.cell? ⟨gb202, 2, none⟩ = some (.int .i64 a0_2) := (zqc BK202.out 2).trans rfl
      have hcz13_3 : wc.cell? ⟨gb202, 3, none⟩ = some (.slice A0_3 l0_3.length c0_3) := (zqc BK202.out 3).trans rfl
      have hfz13_0 := zqa BK202.out 0
      have hfz13_1 := zqa BK202.out 1
      have hfz13_2 := zqa BK202.out 2
      have hfz13_3 := zqa BK202.out 3
      go_wp2
      repeat (go_quiet (fail); try go_wp2)
      go_ret
      exact ⟨by first | rfl | (simp [errW_none, errW_some] <;> rfl) | (simp [*, errW_none, errW_some] <;> rfl), by repeat (first | (with_reducible first | exact HB.out | apply zqj | apply zqb | apply zqf | refine zqk ?_ GE202.out) | exact HB.out)⟩
     ·rw [if_neg c12] at H
      have c12b0 : decide (8 < (l0_3.length : Int)) = false := decide_eq_false c12
      have c12b1 : decide (8 < l0_3.length) = false := decide_eq_false (by omega)
      clear c12
      have H' := zqd.mk H
      clear H
      have hcz14_0 : wc.cell? ⟨gb202, 0, none⟩ = some (.string a0_0) := (zqc BK202.out 0).trans rfl
      have hcz14_1 : wc.cell? ⟨gb202, 1, none⟩ = some (.bool a0_1) := (zqc BK202.out 1).trans rfl
      have hcz14_2 : wc.cell? ⟨gb202, 2, none⟩ = some (.int .i64 a0_2) := (zqc BK202.out 2).trans rfl
      have hcz14_3 : wc.cell? ⟨gb202, 3, none⟩ = some (.slice A0_3 l0_3.length c0_3) := (zqc BK202.out 3).trans rfl
      have hfz14_0 := zqa BK202.out 0
      have hfz14_1 := zqa BK202.out 1
      have hfz14_2 := zqa BK202.out 2
      have hfz14_3 := zqa BK202.out 3
      go_wp2
      repeat (go_quiet (fail); try go_wp2)
      go_loopg [3] kj3 (fun kq v3 w' => ∃ (x3_2 : Int), v3 = .int .i64 x3_2 ∧ zqd (chicaneref14_Check.l0 kq x3_2 a0_0 a0_1 a0_2 l0_3 = some r) ∧ zqd (kq ≤ kj3) ∧ zqd (w'.heap[gb202]? = some (.cells #[.string a0_0, .bool a0_1, .int .i64 a0_2, (.slice A0_3 l0_3.length c0_3)] 39 (0, 0))) ∧ zqd (Below w.heap.size w w'))
      case atStart => exact ⟨(0), (by first | rfl | (simp; done) | (simp [*]; done)), H', ⟨Nat.le_refl _⟩, ⟨by (with_reducible repeat (first | refine zqg ?_ _ | refine zqi ?_ | refine zqh ?_ _)); exact BK202.out⟩, ⟨by repeat (first | (with_reducible first | exact HB.out | apply zqj | apply zqb | apply zqf | refine zqk ?_ GE202.out) | exact HB.out)⟩⟩
      case round =>
       clear H'
       try clear c1
       try clear c2
       try clear p2
       try clear c3
       try clear c8
       try clear c8b0
       try clear c11
       try clear c12
       try clear c12b0
       try clear c12b1
       try clear hcz10_0
       try clear hcz10_1
       try clear hcz10_2
       try clear hcz10_3
       try clear hcz13_0
       try clear hcz13_1
       try clear hcz13_2
       try clear hcz13_3
       try clear hcz14_0
       try clear hcz14_1
       try clear hcz14_2
       try clear hcz14_3
       try clear hcz6_0
       try clear hcz6_1
       try clear hcz6_2
       try clear hcz6_3
       try clear hcz9_0
       try clear hcz9_1
       try clear hcz9_2
       try clear hcz9_3
       try clear hfz10_0
       try clear hfz10_1
       try clear hfz10_2
       try clear hfz10_3
       try clear hfz13_0
       try clear hfz13_1
       try clear hfz13_2
       try clear hfz13_3
       try clear hfz14_0
       try clear hfz14_1
       try clear hfz14_2
       try clear hfz14_3
       try clear hfz6_0
       try clear hfz6_1
       try clear hfz6_2
       try clear hfz6_3
       try clear hfz9_0
       try clear hfz9_1
       try clear hfz9_2
       try clear hfz9_3
       try clear p2
       obtain ⟨x3_2, rfl, HA, HK2, BK202, HB⟩ := hrel
       cases gk with
       | zero => exact absurd HA.out (by simp [chicaneref14_Check.l0])
       | succ k2 =>
        have H := HA.out
        clear HA
        simp only [chicaneref14_Check.l0] at H
        by_cases c15 : x3_2 < (l0_3.length : Int)
        ·rw [if_pos c15] at H
         have c15b0 : decide (x3_2 < (l0_3.length : Int)) = true := decide_eq_true c15
         clear c15
         by_cases c16 : 0 ≤ x3_2
         ·rw [if_pos c16] at H
          have c16b0 : decide (0 ≤ x3_2) = true := decide_eq_true c16
          clear c16
          replace H := Option.bind_eq_some_iff.mp H
          obtain ⟨t205, A170, H⟩ := H
          replace H : (if t205 = 0 then (chicaneref14_Check.l0 k2 (wrap64 (x3_2 + 1)) a0_0 a0_1 a0_2 l0_3) else (some t205)) = some r := H
          have A17 := zqd.mk A170
          clear A170
          by_cases c18 : t205 = 0
          ·rw [if_pos c18] at H
           have c18b0 : (t205 == 0) = true := beq_iff_eq.mpr c18
           have c18b1 : (t205 != 0) = false := bne_eq_false_iff_eq.mpr c18
           clear c18
           have H' := zqd.mk H
           clear H
           have hcz19_0 : wr.cell? ⟨gb202, 0, none⟩ = some (.string a0_0) := (zqc BK202.out 0).trans rfl
           have hcz19_1 : wr.cell? ⟨gb202, 1, none⟩ = some (.bool a0_1) := (zqc BK202.out 1).trans rfl
           have hcz19_2 : wr.cell? ⟨gb202, 2, none⟩ = some (.int .i64 a0_2) := (zqc BK202.out 2).trans rfl
           have hcz19_3 : wr.cell? ⟨gb202, 3, none⟩ = some (.slice A0_3 l0_3.length c0_3) := (zqc BK202.out 3).trans rfl
           have hfz19_0 := zqa BK202.out 0
           have hfz19_1 := zqa BK202.out 1
           have hfz19_2 := zqa BK202.out 2
           have hfz19_3 := zqa BK202.out 3
           have p204 : 0 ≤ (x3_2 : Int) := of_decide_eq_true (by first | (with_reducible assumption) | assumption)
           have q204 : x3_2 < (l0_3.length : Int) := of_decide_eq_true (by first | (with_reducible assumption) | assumption)
           obtain ⟨ad204, e204, hx204_0, hx204_1, hx204_2, hx204_3, hx204_4, hx204_5⟩ := at_T24 HR0_3.out x3_2 p204 q204
           cases e204
           replace hx204_0 := (HB.out.cell (World.block_lt_of_cell? w _ hx204_0)).trans hx204_0
           replace hx204_1 := (HB.out.cell (World.block_lt_of_cell? w _ hx204_1)).trans hx204_1
           replace hx204_2 := (HB.out.cell (World.block_lt_of_cell? w _ hx204_2)).trans hx204_2
           replace hx204_3 := (HB.out.cell (World.block_lt_of_cell? w _ hx204_3)).trans hx204_3
           replace hx204_4 := (HB.out.cell (World.block_lt_of_cell? w _ hx204_4)).trans hx204_4
           replace hx204_5 := (HB.out.cell (World.block_lt_of_cell? w _ hx204_5)).trans hx204_5
           replace p204 := eq_true p204
           replace q204 := eq_true q204
           go_wp2_with (first | (go_at_call 56; (with_reducible refine (chicaneref09_Check.calls ((rd_T24 l0_3 x3_2).f0) ((rd_T24 l0_3 x3_2).f1) ((rd_T24 l0_3 x3_2).f2) ((rd_T24 l0_3 x3_2).f3) ((rd_T24 l0_3 x3_2).f4) ((rd_T24 l0_3 x3_2).f5) t205 _ A17.out).mono ?_); rintro e w20 ⟨rfl, hb⟩; have n0_ := zqd.mk (blk_below (g := gb202) (o := .cells #[.string a0_0, .bool a0_1, .int .i64 a0_2, .slice (some ad204) l0_3.length c0_3] 39 (0, 0)) (by (with_reducible repeat (first | refine zqg ?_ _ | refine zqi ?_ | refine zqh ?_ _)); exact BK202.out) hb); have n1_ := zqd.mk (below_step (by repeat (first | (with_reducible first | exact HB.out | apply zqj | apply zqb | apply zqf | refine zqk ?_ GE202.out) | exact HB.out)) hb); clear BK202; clear HB; have BK202 := n0_; have HB := n1_; clear n0_ n1_; (try clear hb); (try clear hb2); (try clear hk); (try clear hi)))
           repeat (go_quiet (first | (go_at_call 56; (with_reducible refine (chicaneref09_Check.calls ((rd_T24 l0_3 x3_2).f0) ((rd_T24 l0_3 x3_2).f1) ((rd_T24 l0_3 x3_2).f2) ((rd_T24 l0_3 x3_2).f3) ((rd_T24 l0_3 x3_2).f4) ((rd_T24 l0_3 x3_2).f5) t205 _ A17.out).mono ?_); rintro e w20 ⟨rfl, hb⟩; have n0_ := zqd.mk (blk_below (g := gb202) (o := .cells #[.string a0_0, .bool a0_1, .int .i64 a0_2, .slice (some ad204) l0_3.length c0_3] 39 (0, 0)) (by (with_reducible repeat (first | refine zqg ?_ _ | refine zqi ?_ | refine zqh ?_ _)); exact BK202.out) hb); have n1_ := zqd.mk (below_step (by repeat (first | (with_reducible first | exact HB.out | apply zqj | apply zqb | apply zqf | refine zqk ?_ GE202.out) | exact HB.out)) hb); clear BK202; clear HB; have BK202 := n0_; have HB := n1_; clear n0_ n1_; (try clear hb); (try clear hb2); (try clear hk); (try clear hi))); try go_wp2_with (first | (go_at_call 56; (with_reducible refine (chicaneref09_Check.calls ((rd_T24 l0_3 x3_2).f0) ((rd_T24 l0_3 x3_2).f1) ((rd_T24 l0_3 x3_2).f2) ((rd_T24 l0_3 x3_2).f3) ((rd_T24 l0_3 x3_2).f4) ((rd_T24 l0_3 x3_2).f5) t205 _ A17.out).mono ?_); rintro e w20 ⟨rfl, hb⟩; have n0_ := zqd.mk (blk_below (g := gb202) (o := .cells #[.string a0_0, .bool a0_1, .int .i64 a0_2, .slice (some ad204) l0_3.length c0_3] 39 (0, 0)) (by (with_reducible repeat (first | refine zqg ?_ _ | refine zqi ?_ | refine zqh ?_ _)); exact BK202.out) hb); have n1_ := zqd.mk (below_step (by repeat (first | (with_reducible first | exact HB.out | apply zqj | apply zqb | apply zqf | refine zqk ?_ GE202.out) | exact HB.out)) hb); clear BK202; clear HB; have BK202 := n0_; have HB := n1_; clear n0_ n1_; (try clear hb); (try clear hb2); (try clear hk); (try clear hi))))
           go_roundg k2
           case measure => have := HJ3.out; have := HK2.out; omega
           case rel => exact ⟨(wrap64 (x3_2 + 1)), (by first | rfl | (simp; done) | (simp [*]; done)), H', ⟨by have := HJ3.out; have := HK2.out; omega⟩, ⟨by (with_reducible repeat (first | refine zqg ?_ _ | refine zqi ?_ | refine zqh ?_ _)); exact BK202.out⟩, ⟨by repeat (first | (with_reducible first | exact HB.out | apply zqj | apply zqb | apply zqf | refine zqk ?_ GE202.out) | exact HB.out)⟩⟩
          ·rw [if_neg c18] at H
           have c18b0 : (t205 == 0) = false := beq_eq_false_iff_ne.mpr c18
           have c18b1 : (t205 != 0) = true := bne_iff_ne.mpr c18
           obtain rfl := Option.some.inj H
           have hcz21_0 : wr.cell? ⟨gb202, 0, none⟩ = some (.string a0_0) := (zqc BK202.out 0).trans rfl
           have hcz21_1 : wr.cell? ⟨gb202, 1, none⟩ = some (.bool a0_1) := (zqc BK202.out 1).trans rfl
           have hcz21_2 : wr.cell? ⟨gb202, 2, none⟩ = some (.int .i64 a0_2) := (zqc BK202.out 2).trans rfl
           have hcz21_3 : wr.cell? ⟨gb202, 3, none⟩ = some (.slice A0_3 l0_3.length c0_3) := (zqc BK202.out 3).trans rfl
           have hfz21_0 := zqa BK202.out 0
           have hfz21_1 := zqa BK202.out 1
           have hfz21_2 := zqa BK202.out 2
           have hfz21_3 := zqa BK202.out 3
           have p204 : 0 ≤ (x3_2 : Int) := of_decide_eq_true (by first | (with_reducible assumption) | assumption)
           have q204 : x3_2 < (l0_3.length : Int) := of_decide_eq_true (by first | (with_reducible assumption) | assumption)
           obtain ⟨ad204, e204, hx204_0, hx204_1, hx204_2, hx204_3, hx204_4, hx204_5⟩ := at_T24 HR0_3.out x3_2 p204 q204
           cases e204
           replace hx204_0 := (HB.out.cell (World.block_lt_of_cell? w _ hx204_0)).trans hx204_0
           replace hx204_1 := (HB.out.cell (World.block_lt_of_cell? w _ hx204_1)).trans hx204_1
           replace hx204_2 := (HB.out.cell (World.block_lt_of_cell? w _ hx204_2)).trans hx204_2
           replace hx204_3 := (HB.out.cell (World.block_lt_of_cell? w _ hx204_3)).trans hx204_3
           replace hx204_4 := (HB.out.cell (World.block_lt_of_cell? w _ hx204_4)).trans hx204_4
           replace hx204_5 := (HB.out.cell (World.block_lt_of_cell? w _ hx204_5)).trans hx204_5
           replace p204 := eq_true p204
           replace q204 := eq_true q204
           go_wp2_with (first | (go_at_call 56; (with_reducible refine (chicaneref09_Check.calls ((rd_T24 l0_3 x3_2).f0) ((rd_T24 l0_3 x3_2).f1) ((rd_T24 l0_3 x3_2).f2) ((rd_T24 l0_3 x3_2).f3) ((rd_T24 l0_3 x3_2).f4) ((rd_T24 l0_3 x3_2).f5) t205 _ A17.out).mono ?_); rintro e w22 ⟨rfl, hb⟩; have n0_ := zqd.mk (blk_below (g := gb202) (o := .cells #[.string a0_0, .bool a0_1, .int .i64 a0_2, .slice (some ad204) l0_3.length c0_3] 39 (0, 0)) (by (with_reducible repeat (first | refine zqg ?_ _ | refine zqi ?_ | refine zqh ?_ _)); exact BK202.out) hb); have n1_ := zqd.mk (below_step (by repeat (first | (with_reducible first | exact HB.out | apply zqj | apply zqb | apply zqf | refine zqk ?_ GE202.out) | exact HB.out)) hb); clear BK202; clear HB; have BK202 := n0_; have HB := n1_; clear n0_ n1_; (try clear hb); (try clear hb2); (try clear hk); (try clear hi)))
           repeat (go_quiet (first | (go_at_call 56; (with_reducible refine (chicaneref09_Check.calls ((rd_T24 l0_3 x3_2).f0) ((rd_T24 l0_3 x3_2).f1) ((rd_T24 l0_3 x3_2).f2) ((rd_T24 l0_3 x3_2).f3) ((rd_T24 l0_3 x3_2).f4) ((rd_T24 l0_3 x3_2).f5) t205 _ A17.out).mono ?_); rintro e w22 ⟨rfl, hb⟩; have n0_ := zqd.mk (blk_below (g := gb202) (o := .cells #[.string a0_0, .bool a0_1, .int .i64 a0_2, .slice (some ad204) l0_3.length c0_3] 39 (0, 0)) (by (with_reducible repeat (first | refine zqg ?_ _ | refine zqi ?_ | refine zqh ?_ _)); exact BK202.out) hb); have n1_ := zqd.mk (below_step (by repeat (first | (with_reducible first | exact HB.out | apply zqj | apply zqb | apply zqf | refine zqk ?_ GE202.out) | exact HB.out)) hb); clear BK202; clear HB; have BK202 := n0_; have HB := n1_; clear n0_ n1_; (try clear hb); (try clear hb2); (try clear hk); (try clear hi))); try go_wp2_with (first | (go_at_call 56; (with_reducible refine (chicaneref09_Check.calls ((rd_T24 l0_3 x3_2).f0) ((rd_T24 l0_3 x3_2).f1) ((rd_T24 l0_3 x3_2).f2) ((rd_T24 l0_3 x3_2).f3) ((rd_T24 l0_3 x3_2).f4) ((rd_T24 l0_3 x3_2).f5) t205 _ A17.out).mono ?_); rintro e w22 ⟨rfl, hb⟩; have n0_ := zqd.mk (blk_below (g := gb202) (o := .cells #[.string a0_0, .bool a0_1, .int .i64 a0_2, .slice (some ad204) l0_3.length c0_3] 39 (0, 0)) (by (with_reducible repeat (first | refine zqg ?_ _ | refine zqi ?_ | refine zqh ?_ _)); exact BK202.out) hb); have n1_ := zqd.mk (below_step (by repeat (first | (with_reducible first | exact HB.out | apply zqj | apply zqb | apply zqf | refine zqk ?_ GE202.out) | exact HB.out)) hb); clear BK202; clear HB; have BK202 := n0_; have HB := n1_; clear n0_ n1_; (try clear hb); (try clear hb2); (try clear hk); (try clear hi))))
           go_ret
           exact ⟨by first | rfl | (simp [errW_none, errW_some] <;> rfl) | (simp [*, errW_none, errW_some] <;> rfl), by repeat (first | (with_reducible first | exact HB.out | apply zqj | apply zqb | apply zqf | refine zqk ?_ GE202.out) | exact HB.out)⟩
         ·rw [if_neg c16] at H
          exact absurd H (by simp)
        ·rw [if_neg c15] at H
         have c15b0 : decide (x3_2 < (l0_3.length : Int)) = false := decide_eq_false c15
         clear c15
         have H' := zqd.mk H
         clear H
         have hcz23_0 : wr.cell? ⟨gb202, 0, none⟩ = some (.string a0_0) := (zqc BK202.out 0).trans rfl
         have hcz23_1 : wr.cell? ⟨gb202, 1, none⟩ = some (.bool a0_1) := (zqc BK202.out 1).trans rfl
         have hcz23_2 : wr.cell? ⟨gb202, 2, none⟩ = some (.int .i64 a0_2) := (zqc BK202.out 2).trans rfl
         have hcz23_3 : wr.cell? ⟨gb202, 3, none⟩ = some (.slice A0_3 l0_3.length c0_3) := (zqc BK202.out 3).trans rfl
         have hfz23_0 := zqa BK202.out 0
         have hfz23_1 := zqa BK202.out 1
         have hfz23_2 := zqa BK202.out 2
         have hfz23_3 := zqa BK202.out 3
         go_wp2
         repeat (go_quiet (fail); try go_wp2)
         go_loopg [5] k2 (fun kq v5 w' => ∃ (x5_3 : Int), v5 = .int .i64 x5_3 ∧ zqd (chicaneref14_Check.l1 kq x5_3 a0_0 a0_1 a0_2 l0_3 = some r) ∧ zqd (kq ≤ k2) ∧ zqd (w'.heap[gb202]? = some (.cells #[.string a0_0, .bool a0_1, .int .i64 a0_2, (.slice A0_3 l0_3.length c0_3)] 39 (0, 0))) ∧ zqd (Below w.heap.size w w'))
         case atStart => exact ⟨(0), (by first | rfl | (simp; done) | (simp [*]; done)), H', ⟨Nat.le_refl _⟩, ⟨by (with_reducible repeat (first | refine zqg ?_ _ | refine zqi ?_ | refine zqh ?_ _)); exact BK202.out⟩, ⟨by repeat (first | (with_reducible first | exact HB.out | apply zqj | apply zqb | apply zqf | refine zqk ?_ GE202.out) | exact HB.out)⟩⟩
         case round =>
          clear H'
          try clear c1
          try clear c2
          try clear p2
          try clear q2
          try clear hx2
          try clear c3
          try clear p6
          try clear c8
          try clear c8b0
          try clear c11
          try clear c12
          try clear c12b0
          try clear c12b1
          try clear c15
          try clear c15b0
          try clear c16
          try clear c16b0
          try clear c18
          try clear c18b0
          try clear c18b1
          try clear p20
          try clear q20
          try clear hx20
          try clear hcz10_0
          try clear hcz10_1
          try clear hcz10_2
          try clear hcz10_3
          try clear hcz13_0
          try clear hcz13_1
          try clear hcz13_2
          try clear hcz13_3
          try clear hcz14_0
          try clear hcz14_1
          try clear hcz14_2
          try clear hcz14_3
          try clear hcz19_0
          try clear hcz19_1
          try clear hcz19_2
          try clear hcz19_3
          try clear hcz21_0
          try clear hcz21_1
          try clear hcz21_2
          try clear hcz21_3
          try clear hcz23_0
          try clear hcz23_1
          try clear hcz23_2
          try clear hcz23_3
          try clear hcz6_0
          try clear hcz6_1
          try clear hcz6_2
          try clear hcz6_3
          try clear hcz9_0
          try clear hcz9_1
          try clear hcz9_2
          try clear hcz9_3
          try clear hfz10_0
          try clear hfz10_1
          try clear hfz10_2
          try clear hfz10_3
          try clear hfz13_0
          try clear hfz13_1
          try clear hfz13_2
          try clear hfz13_3
          try clear hfz14_0
          try clear hfz14_1
          try clear hfz14_2
          try clear hfz14_3
          try clear hfz19_0
          try clear hfz19_1
          try clear hfz19_2
          try clear hfz19_3
          try clear hfz21_0
          try clear hfz21_1
          try clear hfz21_2
          try clear hfz21_3
          try clear hfz23_0
          try clear hfz23_1
          try clear hfz23_2
          try clear hfz23_3
          try clear hfz6_0
          try clear hfz6_1
          try clear hfz6_2
          try clear hfz6_3
          try clear hfz9_0
          try clear hfz9_1
          try clear hfz9_2
          try clear hfz9_3
          try clear hx204_0
          try clear hx204_1
          try clear hx204_2
          try clear hx204_3
          try clear hx204_4
          try clear hx204_5
          try clear p2
          try clear p204
          try clear q204
          obtain ⟨x5_3, rfl, HA, HK3, BK202, HB⟩ := hrel
          cases gk with
          | zero => exact absurd HA.out (by simp [chicaneref14_Check.l1])
          | succ k3 =>
           have H := HA.out
           clear HA
           simp only [chicaneref14_Check.l1] at H
           by_cases c24 : x5_3 < (l0_3.length : Int)
           ·rw [if_pos c24] at H
            have c24b0 : decide (x5_3 < (l0_3.length : Int)) = true := decide_eq_true c24
            clear c24
            by_cases c25 : 0 ≤ x5_3
            ·rw [if_pos c25] at H
             have c25b0 := eq_true c25
             have c25b1 : decide (0 ≤ x5_3) = true := decide_eq_true c25
             clear c25
             by_cases c26 : x5_3 ≤ (l0_3.length : Int)
             ·rw [if_pos c26] at H
              have c26b0 := eq_true c26
              have c26b1 : decide (x5_3 ≤ (l0_3.length : Int)) = true := decide_eq_true c26
              clear c26
              obtain ⟨y206, hy206⟩ : ∃ y_ : List (S24), y_ = (l0_3.take (x5_3 : Int).toNat) := ⟨_, rfl⟩
              replace H : ((chicaneref14_find.f k3 y206 ((rd_T24 l0_3 x5_3).f0)).bind fun t211 => (if t211 ≥ 0 then (some 141) else (chicaneref14_Check.l1 k3 (wrap64 (x5_3 + 1)) a0_0 a0_1 a0_2 l0_3))) = some r := by first | (rw [hy206]; with_reducible exact H) | (have H2_ := (Option.bind_some _ _).symm.trans H; rw [hy206]; with_reducible exact H2_) | (have H2_ := (Option.bind_some _ _).symm.trans H; with_reducible exact H2_) | with_reducible exact H | (rw [hy206]; exact H) | exact H
              have Ny206 := zqd.mk hy206
              clear hy206
              replace H := Option.bind_eq_some_iff.mp H
              obtain ⟨t211, A270, H⟩ := H
              replace H : (if t211 ≥ 0 then (some 141) else (chicaneref14_Check.l1 k3 (wrap64 (x5_3 + 1)) a0_0 a0_1 a0_2 l0_3)) = some r := H
              have A27 := zqd.mk A270
              clear A270
              by_cases c28 : t211 ≥ 0
              ·rw [if_pos c28] at H
               have c28b0 : decide (0 ≤ t211) = true := decide_eq_true c28
               clear c28
               obtain rfl := Option.some.inj H
               have hcz29_0 : wr.cell? ⟨gb202, 0, none⟩ = some (.string a0_0) := (zqc BK202.out 0).trans rfl
               have hcz29_1 : wr.cell? ⟨gb202, 1, none⟩ = some (.bool a0_1) := (zqc BK202.out 1).trans rfl
               have hcz29_2 : wr.cell? ⟨gb202, 2, none⟩ = some (.int .i64 a0_2) := (zqc BK202.out 2).trans rfl
               have hcz29_3 : wr.cell? ⟨gb202, 3, none⟩ = some (.slice A0_3 l0_3.length c0_3) := (zqc BK202.out 3).trans rfl
               have hfz29_0 := zqa BK202.out 0
               have hfz29_1 := zqa BK202.out 1
               have hfz29_2 := zqa BK202.out 2
               have hfz29_3 := zqa BK202.out 3
               have q30 : (x5_3 : Int) ≤ ((l0_3.length : Int) : Int) := of_decide_eq_true (by first | (with_reducible assumption) | assumption)
               obtain ⟨i030, hi030, _, hsz30, _⟩ := info_parts info24
               have hroom30 : l0_3.length ≤ c0_3 := HC0_3.out
               have hC30 : Kd.C k24 _ A0_3 l0_3.length l0_3 := HR0_3.out
               have hcut30 := cut_to (P := Tryz.prog) 37 24 .i64 Tryz.underlying37 hi030 A0_3 l0_3.length c0_3 x5_3 (of_decide_eq_true (by first | (with_reducible assumption) | assumption)) q30 hroom30
               have hr30 := Kd.C_take (m := (x5_3 : Int).toNat) hC30 (by omega)
               have hy30 : y206.length = (x5_3 : Int).toNat := (by rw [Ny206.out, List.length_take]; omega)
               rw [← Ny206.out] at hr30
               rw [← hy30] at hcut30
               have HR209 := zqd.mk hr30
               have HC209 := zqd.mk (show y206.length ≤ c0_3 from by omega)
               clear hr30 hC30 hroom30 hi030 hsz30
               have KY30 := zqd.mk hy30
               clear hy30
               replace q30 := eq_true q30
               have p210 : 0 ≤ (x5_3 : Int) := of_decide_eq_true (by first | (with_reducible assumption) | assumption)
               have q210 : x5_3 < (l0_3.length : Int) := of_decide_eq_true (by first | (with_reducible assumption) | assumption)
               obtain ⟨ad210, e210, hx210_0, hx210_1, hx210_2, hx210_3, hx210_4, hx210_5⟩ := at_T24 HR0_3.out x5_3 p210 q210
               cases e210
               replace hx210_0 := (HB.out.cell (World.block_lt_of_cell? w _ hx210_0)).trans hx210_0
               replace hx210_1 := (HB.out.cell (World.block_lt_of_cell? w _ hx210_1)).trans hx210_1
               replace hx210_2 := (HB.out.cell (World.block_lt_of_cell? w _ hx210_2)).trans hx210_2
               replace hx210_3 := (HB.out.cell (World.block_lt_of_cell? w _ hx210_3)).trans hx210_3
               replace hx210_4 := (HB.out.cell (World.block_lt_of_cell? w _ hx210_4)).trans hx210_4
               replace hx210_5 := (HB.out.cell (World.block_lt_of_cell? w _ hx210_5)).trans hx210_5
               replace p210 := eq_true p210
               replace q210 := eq_true q210
               go_wp2_with (first | (go_at_call 57; (with_reducible refine (chicaneref14_find.calls k3 _ _ y206 ((rd_T24 l0_3 x5_3).f0) t211 _ ?side1 ?side2 A27.out).mono ?_); (case side1 => repeat (first | exact (Kd.C_below HR209.out HB.out) | (with_reducible refine Kd.C_alloc ?_ _) | (with_reducible refine Kd.C_drewN ?_ _) | (with_reducible refine Kd.C_drew ?_))); (case side2 => exact HC209.out); rintro e w' ⟨rfl, ⟨nd, rfl⟩⟩; (try first | exact ⟨rfl, _, World.drewN_drewN _ _ _⟩ | exact ⟨rfl, _, Eq.trans (World.drewN_drewN _ _ _) (congrArg (World.drewN _) (Nat.add_assoc _ _ _))⟩)))
               repeat (go_quiet (first | (go_at_call 57; (with_reducible refine (chicaneref14_find.calls k3 _ _ y206 ((rd_T24 l0_3 x5_3).f0) t211 _ ?side1 ?side2 A27.out).mono ?_); (case side1 => repeat (first | exact (Kd.C_below HR209.out HB.out) | (with_reducible refine Kd.C_alloc ?_ _) | (with_reducible refine Kd.C_drewN ?_ _) | (with_reducible refine Kd.C_drew ?_))); (case side2 => exact HC209.out); rintro e w' ⟨rfl, ⟨nd, rfl⟩⟩; (try first | exact ⟨rfl, _, World.drewN_drewN _ _ _⟩ | exact ⟨rfl, _, Eq.trans (World.drewN_drewN _ _ _) (congrArg (World.drewN _) (Nat.add_assoc _ _ _))⟩))); try go_wp2_with (first | (go_at_call 57; (with_reducible refine (chicaneref14_find.calls k3 _ _ y206 ((rd_T24 l0_3 x5_3).f0) t211 _ ?side1 ?side2 A27.out).mono ?_); (case side1 => repeat (first | exact (Kd.C_below HR209.out HB.out) | (with_reducible refine Kd.C_alloc ?_ _) | (with_reducible refine Kd.C_drewN ?_ _) | (with_reducible refine Kd.C_drew ?_))); (case side2 => exact HC209.out); rintro e w' ⟨rfl, ⟨nd, rfl⟩⟩; (try first | exact ⟨rfl, _, World.drewN_drewN _ _ _⟩ | exact ⟨rfl, _, Eq.trans (World.drewN_drewN _ _ _) (congrArg (World.drewN _) (Nat.add_assoc _ _ _))⟩))))
               go_ret
               exact ⟨by first | rfl | (simp [errW_none, errW_some] <;> rfl) | (simp [*, errW_none, errW_some] <;> rfl), by repeat (first | (with_reducible first | exact HB.out | apply zqj | apply zqb | apply zqf | refine zqk ?_ GE202.out) | exact HB.out)⟩
              ·rw [if_neg c28] at H
               have c28b0 : decide (0 ≤ t211) = false := decide_eq_false c28
               clear c28
               have H' := zqd.mk H
               clear H
               have hcz31_0 : wr.cell? ⟨gb202, 0, none⟩ = some (.string a0_0) := (zqc BK202.out 0).trans rfl
               have hcz31_1 : wr.cell? ⟨gb202, 1, none⟩ = some (.bool a0_1) := (zqc BK202.out 1).trans rfl
               have hcz31_2 : wr.cell? ⟨gb202, 2, none⟩ = some (.int .i64 a0_2) := (zqc BK202.out 2).trans rfl
               have hcz31_3 : wr.cell? ⟨gb202, 3, none⟩ = some (.slice A0_3 l0_3.length c0_3) := (zqc BK202.out 3).trans rfl
               have hfz31_0 := zqa BK202.out 0
               have hfz31_1 := zqa BK202.out 1
               have hfz31_2 := zqa BK202.out 2
               have hfz31_3 := zqa BK202.out 3
               have q32 : (x5_3 : Int) ≤ ((l0_3.length : Int) : Int) := of_decide_eq_true (by first | (with_reducible assumption) | assumption)
               obtain ⟨i032, hi032, _, hsz32, _⟩ := info_parts info24
               have hroom32 : l0_3.length ≤ c0_3 := HC0_3.out
               have hC32 : Kd.C k24 _ A0_3 l0_3.length l0_3 := HR0_3.out
               have hcut32 := cut_to (P := Tryz.prog) 37 24 .i64 Tryz.underlying37 hi032 A0_3 l0_3.length c0_3 x5_3 (of_decide_eq_true (by first | (with_reducible assumption) | assumption)) q32 hroom32
               have hr32 := Kd.C_take (m := (x5_3 : Int).toNat) hC32 (by omega)
               have hy32 : y206.length = (x5_3 : Int).toNat := (by rw [Ny206.out, List.length_take]; omega)
               rw [← Ny206.out] at hr32
               rw [← hy32] at hcut32
               have HR209 := zqd.mk hr32
               have HC209 := zqd.mk (show y206.length ≤ c0_3 from by omega)
               clear hr32 hC32 hroom32 hi032 hsz32
               have KY32 := zqd.mk hy32
               clear hy32
               replace q32 := eq_true q32
               have p210 : 0 ≤ (x5_3 : Int) := of_decide_eq_true (by first | (with_reducible assumption) | assumption)
               have q210 : x5_3 < (l0_3.length : Int) := of_decide_eq_true (by first | (with_reducible assumption) | assumption)
               obtain ⟨ad210, e210, hx210_0, hx210_1, hx210_2, hx210_3, hx210_4, hx210_5⟩ := at_T24 HR0_3.out x5_3 p210 q210
               cases e210
               replace hx210_0 := (HB.out.cell (World.block_lt_of_cell? w _ hx210_0)).trans hx210_0
               replace hx210_1 := (HB.out.cell (World.block_lt_of_cell? w _ hx210_1)).trans hx210_1
               replace hx210_2 := (HB.out.cell (World.block_lt_of_cell? w _ hx210_2)).trans hx210_2
               replace hx210_3 := (HB.out.cell (World.block_lt_of_cell? w _ hx210_3)).trans hx210_3
               replace hx210_4 := (HB.out.cell (World.block_lt_of_cell? w _ hx210_4)).trans hx210_4
               replace hx210_5 := (HB.out.cell (World.block_lt_of_cell? w _ hx210_5)).trans hx210_5
               replace p210 := eq_true p210
               replace q210 := eq_true q210
               go_wp2_with (first | (go_at_call 57; (with_reducible refine (chicaneref14_find.calls k3 _ _ y206 ((rd_T24 l0_3 x5_3).f0) t211 _ ?side1 ?side2 A27.out).mono ?_); (case side1 => repeat (first | exact (Kd.C_below HR209.out HB.out) | (with_reducible refine Kd.C_alloc ?_ _) | (with_reducible refine Kd.C_drewN ?_ _) | (with_reducible refine Kd.C_drew ?_))); (case side2 => exact HC209.out); rintro e w' ⟨rfl, ⟨nd, rfl⟩⟩; (try first | exact ⟨rfl, _, World.drewN_drewN _ _ _⟩ | exact ⟨rfl, _, Eq.trans (World.drewN_drewN _ _ _) (congrArg (World.drewN _) (Nat.add_assoc _ _ _))⟩)))
               repeat (go_quiet (first | (go_at_call 57; (with_reducible refine (chicaneref14_find.calls k3 _ _ y206 ((rd_T24 l0_3 x5_3).f0) t211 _ ?side1 ?side2 A27.out).mono ?_); (case side1 => repeat (first | exact (Kd.C_below HR209.out HB.out) | (with_reducible refine Kd.C_alloc ?_ _) | (with_reducible refine Kd.C_drewN ?_ _) | (with_reducible refine Kd.C_drew ?_))); (case side2 => exact HC209.out); rintro e w' ⟨rfl, ⟨nd, rfl⟩⟩; (try first | exact ⟨rfl, _, World.drewN_drewN _ _ _⟩ | exact ⟨rfl, _, Eq.trans (World.drewN_drewN _ _ _) (congrArg (World.drewN _) (Nat.add_assoc _ _ _))⟩))); try go_wp2_with (first | (go_at_call 57; (with_reducible refine (chicaneref14_find.calls k3 _ _ y206 ((rd_T24 l0_3 x5_3).f0) t211 _ ?side1 ?side2 A27.out).mono ?_); (case side1 => repeat (first | exact (Kd.C_below HR209.out HB.out) | (with_reducible refine Kd.C_alloc ?_ _) | (with_reducible refine Kd.C_drewN ?_ _) | (with_reducible refine Kd.C_drew ?_))); (case side2 => exact HC209.out); rintro e w' ⟨rfl, ⟨nd, rfl⟩⟩; (try first | exact ⟨rfl, _, World.drewN_drewN _ _ _⟩ | exact ⟨rfl, _, Eq.trans (World.drewN_drewN _ _ _) (congrArg (World.drewN _) (Nat.add_assoc _ _ _))⟩))))
               go_roundg k3
               case measure => have := HJ3.out; have := HK2.out; have := HK3.out; omega
               case rel => exact ⟨(wrap64 (x5_3 + 1)), (by first | rfl | (simp; done) | (simp [*]; done)), H', ⟨by have := HJ3.out; have := HK2.out; have := HK3.out; omega⟩, ⟨by (with_reducible repeat (first | refine zqg ?_ _ | refine zqi ?_ | refine zqh ?_ _)); exact BK202.out⟩, ⟨by repeat (first | (with_reducible first | exact HB.out | apply zqj | apply zqb | apply zqf | refine zqk ?_ GE202.out) | exact HB.out)⟩⟩
             ·rw [if_neg c26] at H
              exact absurd H (by simp)
            ·rw [if_neg c25] at H
             exact absurd H (by simp)
           ·rw [if_neg c24] at H
            have c24b0 : decide (x5_3 < (l0_3.length : Int)) = false := decide_eq_false c24
            clear c24
            obtain rfl := Option.some.inj H
            have hcz33_0 : wr.cell? ⟨gb202, 0, none⟩ = some (.string a0_0) := (zqc BK202.out 0).trans rfl
            have hcz33_1 : wr.cell? ⟨gb202, 1, none⟩ = some (.bool a0_1) := (zqc BK202.out 1).trans rfl
            have hcz33_2 : wr.cell? ⟨gb202, 2, none⟩ = some (.int .i64 a0_2) := (zqc BK202.out 2).trans rfl
            have hcz33_3 : wr.cell? ⟨gb202, 3, none⟩ = some (.slice A0_3 l0_3.length c0_3) := (zqc BK202.out 3).trans rfl
            have hfz33_0 := zqa BK202.out 0
            have hfz33_1 := zqa BK202.out 1
            have hfz33_2 := zqa BK202.out 2
            have hfz33_3 := zqa BK202.out 3
            go_wp2
            repeat (go_quiet (fail); try go_wp2)
            go_ret
            exact ⟨by first | rfl | (simp [errW_none, errW_some] <;> rfl) | (simp [*, errW_none, errW_some] <;> rfl), by repeat (first | (with_reducible first | exact HB.out | apply zqj | apply zqb | apply zqf | refine zqk ?_ GE202.out) | exact HB.out)⟩
 ·replace c3 := Bool.eq_false_iff.mpr c3
  subst c3
  have H1 : (some 140) = some r := by rw [if_neg (show ¬ (false = true) by decide)] at H; exact H
  clear H
  have H := H1
  clear H1
  obtain rfl := Option.some.inj H
  go_enter Tryz.func27, Tryz.ntmps27
  go_wp2_with (first | ((with_reducible refine gate_dst (N := 1) rfl ?_); refine box_event ?hg (N := 1) ?hd (cs := #[.string a0_0, .bool a0_1, .int .i64 a0_2, .slice A0_3 l0_3.length c0_3]) (t := 39) ?hr ?_; (case hd => rfl); (case hg => rfl); (case hr => first | (go_simp; done) | (go_simp; rfl)); intro gb202 hg w34 hbox hb; have n0_ := zqd.mk (below_step (by repeat (first | (with_reducible first | exact HB.out | apply zqj | apply zqb | apply zqf) | exact HB.out)) hb); have n1_ := zqd.mk (hbox); have n2_ := zqd.mk ((by rw [hg]; exact (below_size (by repeat (first | (with_reducible first | exact HB.out | apply zqj | apply zqb | apply zqf) | exact HB.out))) : w.heap.size ≤ gb202)); have n3_ := zqd.mk ((by rw [hg]; exact (below_size (by repeat (first | (with_reducible first | exact HB.out | apply zqj | apply zqb | apply zqf) | exact HB.out))) : w.heap.size ≤ gb202)); clear HB; have HB := n0_; have BK202 := n1_; have GW202 := n2_; have GE202 := n3_; clear n0_ n1_ n2_ n3_; clear hb hbox hg; have hcz35_0 : w34.cell? ⟨gb202, 0, none⟩ = some (.string a0_0) := (zqc BK202.out 0).trans rfl; have hcz35_1 : w34.cell? ⟨gb202, 1, none⟩ = some (.bool a0_1) := (zqc BK202.out 1).trans rfl; have hcz35_2 : w34.cell? ⟨gb202, 2, none⟩ = some (.int .i64 a0_2) := (zqc BK202.out 2).trans rfl; have hcz35_3 : w34.cell? ⟨gb202, 3, none⟩ = some (.slice A0_3 l0_3.length c0_3) := (zqc BK202.out 3).trans rfl; have hfz35_0 := zqa BK202.out 0; have hfz35_1 := zqa BK202.out 1; have hfz35_2 := zqa BK202.out 2; have hfz35_3 := zqa BK202.out 3) | (go_at_call 54; (with_reducible refine (chicaneref09_Name.calls a0_0 false _ A2.out).mono ?_); rintro e w36 ⟨rfl, hb⟩; have n0_ := zqd.mk (blk_below (g := gb202) (o := .cells #[.string a0_0, .bool a0_1, .int .i64 a0_2, .slice A0_3 l0_3.length c0_3] 39 (0, 0)) (by (with_reducible repeat (first | refine zqg ?_ _ | refine zqi ?_ | refine zqh ?_ _)); exact BK202.out) hb); have n1_ := zqd.mk (below_step (by repeat (first | (with_reducible first | exact HB.out | apply zqj | apply zqb | apply zqf | refine zqk ?_ GE202.out) | exact HB.out)) hb); clear BK202; clear HB; have BK202 := n0_; have HB := n1_; clear n0_ n1_; (try clear hb); (try clear hb2); (try clear hk); (try clear hi)))
  repeat (go_quiet (first | ((with_reducible refine gate_dst (N := 1) rfl ?_); refine box_event ?hg (N := 1) ?hd (cs := #[.string a0_0, .bool a0_1, .int .i64 a0_2, .slice A0_3 l0_3.length c0_3]) (t := 39) ?hr ?_; (case hd => rfl); (case hg => rfl); (case hr => first | (go_simp; done) | (go_simp; rfl)); intro gb202 hg w34 hbox hb; have n0_ := zqd.mk (below_step (by repeat (first | (with_reducible first | exact HB.out | apply zqj | apply zqb | apply zqf) | exact HB.out)) hb); have n1_ := zqd.mk (hbox); have n2_ := zqd.mk ((by rw [hg]; exact (below_size (by repeat (first | (with_reducible first | exact HB.out | apply zqj | apply zqb | apply zqf) | exact HB.out))) : w.heap.size ≤ gb202)); have n3_ := zqd.mk ((by rw [hg]; exact (below_size (by repeat (first | (with_reducible first | exact HB.out | apply zqj | apply zqb | apply zqf) | exact HB.out))) : w.heap.size ≤ gb202)); clear HB; have HB := n0_; have BK202 := n1_; have GW202 := n2_; have GE202 := n3_; clear n0_ n1_ n2_ n3_; clear hb hbox hg; have hcz35_0 : w34.cell? ⟨gb202, 0, none⟩ = some (.string a0_0) := (zqc BK202.out 0).trans rfl; have hcz35_1 : w34.cell? ⟨gb202, 1, none⟩ = some (.bool a0_1) := (zqc BK202.out 1).trans rfl; have hcz35_2 : w34.cell? ⟨gb202, 2, none⟩ = some (.int .i64 a0_2) := (zqc BK202.out 2).trans rfl; have hcz35_3 : w34.cell? ⟨gb202, 3, none⟩ = some (.slice A0_3 l0_3.length c0_3) := (zqc BK202.out 3).trans rfl; have hfz35_0 := zqa BK202.out 0; have hfz35_1 := zqa BK202.out 1; have hfz35_2 := zqa BK202.out 2; have hfz35_3 := zqa BK202.out 3) | (go_at_call 54; (with_reducible refine (chicaneref09_Name.calls a0_0 false _ A2.out).mono ?_); rintro e w36 ⟨rfl, hb⟩; have n0_ := zqd.mk (blk_below (g := gb202) (o := .cells #[.string a0_0, .bool a0_1, .int .i64 a0_2, .slice A0_3 l0_3.length c0_3] 39 (0, 0)) (by (with_reducible repeat (first | refine zqg ?_ _ | refine zqi ?_ | refine zqh ?_ _)); exact BK202.out) hb); have n1_ := zqd.mk (below_step (by repeat (first | (with_reducible first | exact HB.out | apply zqj | apply zqb | apply zqf | refine zqk ?_ GE202.out) | exact HB.out)) hb); clear BK202; clear HB; have BK202 := n0_; have HB := n1_; clear n0_ n1_; (try clear hb); (try clear hb2); (try clear hk); (try clear hi))); try go_wp2_with (first | ((with_reducible refine gate_dst (N := 1) rfl ?_); refine box_event ?hg (N := 1) ?hd (cs := #[.string a0_0, .bool a0_1, .int .i64 a0_2, .slice A0_3 l0_3.length c0_3]) (t := 39) ?hr ?_; (case hd => rfl); (case hg => rfl); (case hr => first | (go_simp; done) | (go_simp; rfl)); intro gb202 hg w34 hbox hb; have n0_ := zqd.mk (below_step (by repeat (first | (with_reducible first | exact HB.out | apply zqj | apply zqb | apply zqf) | exact HB.out)) hb); have n1_ := zqd.mk (hbox); have n2_ := zqd.mk ((by rw [hg]; exact (below_size (by repeat (first | (with_reducible first | exact HB.out | apply zqj | apply zqb | apply zqf) | exact HB.out))) : w.heap.size ≤ gb202)); have n3_ := zqd.mk ((by rw [hg]; exact (below_size (by repeat (first | (with_reducible first | exact HB.out | apply zqj | apply zqb | apply zqf) | exact HB.out))) : w.heap.size ≤ gb202)); clear HB; have HB := n0_; have BK202 := n1_; have GW202 := n2_; have GE202 := n3_; clear n0_ n1_ n2_ n3_; clear hb hbox hg; have hcz35_0 : w34.cell? ⟨gb202, 0, none⟩ = some (.string a0_0) := (zqc BK202.out 0).trans rfl; have hcz35_1 : w34.cell? ⟨gb202, 1, none⟩ = some (.bool a0_1) := (zqc BK202.out 1).trans rfl; have hcz35_2 : w34.cell? ⟨gb202, 2, none⟩ = some (.int .i64 a0_2) := (zqc BK202.out 2).trans rfl; have hcz35_3 : w34.cell? ⟨gb202, 3, none⟩ = some (.slice A0_3 l0_3.length c0_3) := (zqc BK202.out 3).trans rfl; have hfz35_0 := zqa BK202.out 0; have hfz35_1 := zqa BK202.out 1; have hfz35_2 := zqa BK202.out 2; have hfz35_3 := zqa BK202.out 3) | (go_at_call 54; (with_reducible refine (chicaneref09_Name.calls a0_0 false _ A2.out).mono ?_); rintro e w36 ⟨rfl, hb⟩; have n0_ := zqd.mk (blk_below (g := gb202) (o := .cells #[.string a0_0, .bool a0_1, .int .i64 a0_2, .slice A0_3 l0_3.length c0_3] 39 (0, 0)) (by (with_reducible repeat (first | refine zqg ?_ _ | refine zqi ?_ | refine zqh ?_ _)); exact BK202.out) hb); have n1_ := zqd.mk (below_step (by repeat (first | (with_reducible first | exact HB.out | apply zqj | apply zqb | apply zqf | refine zqk ?_ GE202.out) | exact HB.out)) hb); clear BK202; clear HB; have BK202 := n0_; have HB := n1_; clear n0_ n1_; (try clear hb); (try clear hb2); (try clear hk); (try clear hi))))
  go_ret
  exact ⟨by first | rfl | (simp [errW_none, errW_some] <;> rfl) | (simp [*, errW_none, errW_some] <;> rfl), by repeat (first | (with_reducible first | exact HB.out | apply zqj | apply zqb | apply zqf | refine zqk ?_ GE202.out) | exact HB.out)⟩
end Go.Proofs.YtlglbpjccpdloaaGreat.PNamA
