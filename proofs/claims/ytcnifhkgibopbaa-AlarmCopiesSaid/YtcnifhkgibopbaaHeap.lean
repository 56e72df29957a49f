/- Plain laws: a heap in a list, and where each number stands. -/
import Derived.Test.YtcnifhkgibopbaaMem
set_option linter.unusedVariables false
set_option linter.unusedSimpArgs false
namespace Go.Proofs.Ytcnifhkgibopbaa

section
variable {κ α : Type} [DecidableEq κ]
theorem mget_mput (m : List (κ × α)) (x y : κ) (v : α) : mget (mput m x v) y = if y = x then some v else mget m y := by
  unfold mput
  split
  · rename_i h
    unfold mget
    induction m with
    | nil => simp at h
    | cons p r ih =>
      simp only [List.map_cons, List.find?_cons]
      by_cases hp : p.1 = x
      · rw [if_pos hp]
        by_cases hy : y = x
        · subst hy; simp
        · have h1 : (x == y) = false := by simpa using fun e => hy e.symm
          have h2 : (p.1 == y) = false := by rw [hp]; exact h1
          simp only [h1, h2, if_neg hy]
          by_cases hr : r.any fun p => p.1 == x
          · have := ih hr; rw [if_neg hy] at this; exact this
          · have : r.map (fun p => if p.1 = x then (x, v) else p) = r := by
              conv => rhs; rw [← List.map_id r]
              apply List.map_congr_left
              intro q hq
              rw [if_neg]
              · rfl
              · intro e
                exact hr (List.any_eq_true.2 ⟨q, hq, by simpa using e⟩)
            rw [this]
      · rw [if_neg hp]
        have hx : (p.1 == x) = false := by simpa using hp
        simp only [List.any_cons, hx, Bool.false_or] at h
        by_cases hy : p.1 = y
        · have : y ≠ x := fun e => hp (hy.trans e)
          simp [hy, this]
        · have h1 : (p.1 == y) = false := by simpa using hy
          simp only [h1]
          exact ih h
  · rename_i h
    simp only [List.any_eq_true, not_exists, not_and, Bool.not_eq_true] at h
    unfold mget
    rw [List.find?_append]
    by_cases hy : y = x
    · subst hy
      rw [List.find?_eq_none.2 (fun p hp => by simpa using h p hp)]
      simp
    · have h1 : (x == y) = false := by simpa using fun e => hy e.symm
      simp [hy, h1]
theorem mget_mdel (m : List (κ × α)) (x y : κ) : mget (mdel m x) y = if y = x then none else mget m y := by
  unfold mdel mget
  induction m with
  | nil => simp
  | cons p r ih =>
    by_cases hp : p.1 = x
    · have h1 : (p.1 == x) = true := by simpa using hp
      simp only [List.filter_cons, h1, Bool.not_true, Bool.false_eq_true, if_false]
      rw [ih]
      by_cases hy : y = x
      · simp [hy]
      · have h2 : (p.1 == y) = false := by rw [hp]; simpa using fun e => hy e.symm
        simp [hy, h2]
    · have h1 : (p.1 == x) = false := by simpa using hp
      simp only [List.filter_cons, h1, Bool.not_false, if_true, List.find?_cons]
      by_cases hy : p.1 = y
      · have : y ≠ x := fun e => hp (hy.trans e)
        simp [hy, this]
      · have h2 : (p.1 == y) = false := by simpa using hy
        simp only [h2]
        exact ih
theorem mput_length_some {m : List (κ × α)} {x : κ} {v v0 : α} (h : mget m x = some v0) : (mput m x v).length = m.length := by
  unfold mput
  rw [if_pos]
  · simp
  · unfold mget at h
    rw [List.any_eq_true]
    cases hf : m.find? (fun p => p.1 == x) with
    | none => rw [hf] at h; cases h
    | some p => exact ⟨p, List.mem_of_find?_eq_some hf, List.find?_some (p := fun p : κ × α => p.1 == x) hf⟩
theorem mput_length_none {m : List (κ × α)} {x : κ} {v : α} (h : mget m x = none) : (mput m x v).length = m.length + 1 := by
  unfold mput
  rw [if_neg]
  · simp
  · unfold mget at h
    rw [Option.map_eq_none_iff, List.find?_eq_none] at h
    simp only [List.any_eq_true, not_exists, not_and]
    intro p hp
    exact h p hp
theorem mem_of_mget {m : List (κ × α)} {x : κ} {v : α} (h : mget m x = some v) : (x, v) ∈ m := by
  unfold mget at h
  cases hf : m.find? (fun p => p.1 == x) with
  | none => rw [hf] at h; cases h
  | some p =>
    rw [hf] at h
    simp at h
    have h1 : p.1 = x := by have := List.find?_some (p := fun p : κ × α => p.1 == x) hf; simpa using this
    have : p = (x, v) := by rw [← h1, ← h]
    exact this ▸ List.mem_of_find?_eq_some hf
theorem mdel_length_some {m : List (κ × α)} {x : κ} {v0 : α} (hn : (m.map (·.1)).Nodup) (h : mget m x = some v0) : (mdel m x).length + 1 = m.length := by
  obtain ⟨j, hj⟩ := List.mem_iff_getElem?.1 (mem_of_mget h)
  rw [mdel_some hn hj]
  have : j < m.length := (List.getElem?_eq_some_iff.1 hj).1
  rw [List.length_eraseIdx_of_lt this]
  omega
end

/-! ### Where each number stands -/
abbrev D2 := Int × Int
structure Idx (L : List D2) (m : List (Int × Nat)) : Prop where
  get : ∀ id i, mget m id = some i ↔ ∃ d, L[i]? = some d ∧ d.2 = id
  len : m.length = L.length
  ok : ∀ d ∈ L, iok d.2
  small : L.length ≤ 4096

def swapL (L : List D2) (i k : Nat) : List D2 := (L.set i (L.getD k (0, 0))).set k (L.getD i (0, 0))
theorem swapL_length (L : List D2) (i k : Nat) : (swapL L i k).length = L.length := by simp [swapL]
theorem getD_lt {L : List D2} {k : Nat} (h : k < L.length) : L.getD k (0, 0) = L[k] := by simp [h]
theorem swapL_eq {L : List D2} {i k : Nat} (hi : i < L.length) (hk : k < L.length) : swapL L i k = (L.set i L[k]).set k L[i] := by
  unfold swapL; rw [getD_lt hi, getD_lt hk]
theorem swapL_at {L : List D2} {i k : Nat} (hi : i < L.length) (hk : k < L.length) (j : Nat) : (swapL L i k)[j]? = if j = k then some L[i] else if j = i then some L[k] else L[j]? := by
  rw [swapL_eq hi hk, List.getElem?_set, List.getElem?_set]
  simp only [List.length_set]
  by_cases h1 : k = j
  · rw [if_pos h1, if_pos h1.symm, if_pos hk]
  · have h1' : ¬ j = k := fun e => h1 e.symm
    rw [if_neg h1, if_neg h1']
    by_cases h2 : i = j
    · rw [if_pos h2, if_pos h2.symm, if_pos hi]
    · have h2' : ¬ j = i := fun e => h2 e.symm
      rw [if_neg h2, if_neg h2']
theorem Idx.uniq {L : List D2} {m : List (Int × Nat)} (h : Idx L m) {i j : Nat} {d d' : D2} (hi : L[i]? = some d) (hj : L[j]? = some d') (he : d.2 = d'.2) : i = j := by
  have h1 := (h.get d.2 i).2 ⟨d, hi, rfl⟩
  have h2 := (h.get d.2 j).2 ⟨d', hj, he.symm⟩
  rw [h1] at h2
  injection h2
theorem Idx.swap {L : List D2} {m : List (Int × Nat)} (h : Idx L m) {i k : Nat} (hi : i < L.length) (hk : k < L.length) : Idx (swapL L i k) (mput (mput m L[k].2 i) L[i].2 k) := by
  have gi : mget m L[i].2 = some i := (h.get _ _).2 ⟨_, List.getElem?_eq_getElem hi, rfl⟩
  have gk : mget m L[k].2 = some k := (h.get _ _).2 ⟨_, List.getElem?_eq_getElem hk, rfl⟩
  refine ⟨fun id j => ?_, ?_, fun d hd => ?_, by rw [swapL_length]; exact h.small⟩
  · rw [mget_mput, mget_mput, swapL_at hi hk]
    by_cases h1 : id = L[i].2
    · rw [if_pos h1]
      constructor
      · intro e
        injection e with e
        subst e
        exact ⟨L[i], by simp, h1.symm⟩
      · rintro ⟨d, hd, hde⟩
        by_cases h2 : j = k
        · rw [h2]
        · rw [if_neg h2] at hd
          by_cases h3 : j = i
          · rw [if_pos h3] at hd
            injection hd with hd
            have := h.uniq (List.getElem?_eq_getElem hk) (List.getElem?_eq_getElem hi) (by rw [hd, hde, h1])
            exact absurd (h3.trans this.symm) h2
          · rw [if_neg h3] at hd
            exact absurd (h.uniq hd (List.getElem?_eq_getElem hi) (by rw [hde, h1])) h3
    · rw [if_neg h1]
      by_cases h2 : id = L[k].2
      · rw [if_pos h2]
        constructor
        · intro e
          injection e with e
          subst e
          refine ⟨L[k], ?_, h2.symm⟩
          by_cases h3 : i = k
          · subst h3; simp
          · rw [if_neg h3, if_pos rfl]
        · rintro ⟨d, hd, hde⟩
          by_cases h3 : j = k
          · rw [if_pos h3] at hd
            injection hd with hd
            exact absurd (by rw [← hde, ← hd]) h1
          · rw [if_neg h3] at hd
            by_cases h4 : j = i
            · rw [h4]
            · rw [if_neg h4] at hd
              exact absurd (h.uniq hd (List.getElem?_eq_getElem hk) (by rw [hde, h2])) h3
      · rw [if_neg h2, h.get]
        constructor
        · rintro ⟨d, hd, hde⟩
          refine ⟨d, ?_, hde⟩
          rw [if_neg, if_neg]
          · exact hd
          · intro e; subst e
            rw [List.getElem?_eq_getElem hi] at hd
            injection hd with hd
            exact h1 (by rw [← hde, hd])
          · intro e; subst e
            rw [List.getElem?_eq_getElem hk] at hd
            injection hd with hd
            exact h2 (by rw [← hde, hd])
        · rintro ⟨d, hd, hde⟩
          by_cases h3 : j = k
          · rw [if_pos h3] at hd; injection hd with hd; exact absurd (by rw [← hde, hd]) h1
          · rw [if_neg h3] at hd
            by_cases h4 : j = i
            · rw [if_pos h4] at hd; injection hd with hd; exact absurd (by rw [← hde, hd]) h2
            · rw [if_neg h4] at hd; exact ⟨d, hd, hde⟩
  · have e1 : (mput m L[k].2 i).length = m.length := mput_length_some gk
    have e2 : ∃ v0, mget (mput m L[k].2 i) L[i].2 = some v0 := by
      rw [mget_mput]
      split
      · exact ⟨_, rfl⟩
      · exact ⟨_, gi⟩
    obtain ⟨v0, e2⟩ := e2
    rw [mput_length_some e2, e1, h.len, swapL_length]
  · rw [swapL_eq hi hk] at hd
    rcases List.mem_or_eq_of_mem_set hd with hd | rfl
    · rcases List.mem_or_eq_of_mem_set hd with hd | rfl
      · exact h.ok d hd
      · exact h.ok _ (List.getElem_mem hk)
    · exact h.ok _ (List.getElem_mem hi)

def aheadB (a b : D2) : Bool := decide (a.1 < b.1) || (a.1 == b.1 && decide (a.2 < b.2))
/-- One is taken up. -/
def riseL : Nat → List D2 → Nat → List D2
  | 0, L, _ => L
  | f + 1, L, k => if decide (0 < k) && aheadB (L.getD k (0, 0)) (L.getD ((k - 1) / 2) (0, 0)) then riseL f (swapL L k ((k - 1) / 2)) ((k - 1) / 2) else L
/-- The best of a place and its kids. -/
def bestS (L : List D2) (b kid : Nat) : Nat := if kid < L.length && aheadB (L.getD kid (0, 0)) (L.getD b (0, 0)) then kid else b
def bestL (L : List D2) (k : Nat) : Nat := bestS L (bestS L k (2 * k + 1)) (2 * k + 2)
theorem bestS_or (L : List D2) (b kid : Nat) : bestS L b kid = b ∨ bestS L b kid = kid ∧ kid < L.length := by
  unfold bestS
  split
  · rename_i h; simp only [Bool.and_eq_true, decide_eq_true_eq] at h; exact .inr ⟨rfl, h.1⟩
  · exact .inl rfl
theorem bestS_ge {L : List D2} {b kid : Nat} (h : L.length ≤ kid) : bestS L b kid = b := by
  unfold bestS
  rw [if_neg]
  simp only [Bool.and_eq_true, decide_eq_true_eq]
  omega
theorem bestS_yes {L : List D2} {b kid : Nat} (hk : kid < L.length) (hb : b < L.length) (h : aheadB L[kid] L[b] = true) : bestS L b kid = kid := by
  unfold bestS
  rw [getD_lt hk, getD_lt hb, h, if_pos (by simpa using hk)]
theorem bestS_no {L : List D2} {b kid : Nat} (hk : kid < L.length) (hb : b < L.length) (h : aheadB L[kid] L[b] = false) : bestS L b kid = b := by
  unfold bestS
  rw [getD_lt hk, getD_lt hb, h, if_neg (by simp)]
theorem bestL_lt {L : List D2} {k : Nat} (hk : k < L.length) : bestL L k < L.length := by
  unfold bestL
  rcases bestS_or L k (2 * k + 1) with h1 | h1 <;> rcases bestS_or L (bestS L k (2 * k + 1)) (2 * k + 2) with h2 | h2 <;> omega
theorem bestL_gt {L : List D2} {k : Nat} (h : bestL L k ≠ k) : k < bestL L k := by
  unfold bestL at *
  rcases bestS_or L k (2 * k + 1) with h1 | h1 <;> rcases bestS_or L (bestS L k (2 * k + 1)) (2 * k + 2) with h2 | h2 <;> omega
/-- One is taken down. -/
def sinkL : Nat → List D2 → Nat → List D2
  | 0, L, _ => L
  | f + 1, L, k => if bestL L k = k then L else sinkL f (swapL L k (bestL L k)) (bestL L k)
theorem riseL_more {f f' : Nat} : ∀ {L : List D2} {k : Nat}, k ≤ f → k ≤ f' → riseL f L k = riseL f' L k := by
  induction f generalizing f' with
  | zero =>
    intro L k h h'
    obtain rfl : k = 0 := by omega
    cases f' with
    | zero => rfl
    | succ f' => unfold riseL; simp
  | succ f ih =>
    intro L k h h'
    cases f' with
    | zero =>
      obtain rfl : k = 0 := by omega
      unfold riseL; simp
    | succ f' =>
      unfold riseL
      split
      · rename_i hc
        have : 0 < k := by simp only [Bool.and_eq_true, decide_eq_true_eq] at hc; exact hc.1
        exact ih (by omega) (by omega)
      · rfl
theorem sinkL_more {f f' : Nat} : ∀ {L : List D2} {k : Nat}, k < L.length → L.length ≤ k + f → L.length ≤ k + f' → sinkL f L k = sinkL f' L k := by
  induction f generalizing f' with
  | zero => intro L k h h1 h2; omega
  | succ f ih =>
    intro L k h h1 h2
    cases f' with
    | zero => omega
    | succ f' =>
      unfold sinkL
      split
      · rfl
      · rename_i hc
        have := bestL_gt hc
        have := bestL_lt h
        exact ih (by rw [swapL_length]; exact bestL_lt h) (by rw [swapL_length]; omega) (by rw [swapL_length]; omega)
theorem riseL_length (f : Nat) : ∀ (L : List D2) (k : Nat), (riseL f L k).length = L.length := by
  induction f with
  | zero => intro L k; rfl
  | succ f ih =>
    intro L k
    unfold riseL
    split
    · rw [ih, swapL_length]
    · rfl
theorem sinkL_length (f : Nat) : ∀ (L : List D2) (k : Nat), (sinkL f L k).length = L.length := by
  induction f with
  | zero => intro L k; rfl
  | succ f ih =>
    intro L k
    unfold sinkL
    split
    · rfl
    · rw [ih, swapL_length]

def setL (L : List D2) (at_ id : Int) : List D2 := riseL L.length (L ++ [(at_, id)]) L.length
def dropL (L : List D2) (k : Nat) : List D2 :=
  let L2 := (swapL L k (L.length - 1)).take (L.length - 1)
  if k < L.length - 1 then sinkL L2.length (riseL k L2 k) k else L2
theorem Idx.push {L : List D2} {m : List (Int × Nat)} (h : Idx L m) (d : D2) (hn : ∀ x ∈ L, x.2 ≠ d.2) (hk : iok d.2) (hl : L.length < 4096) : Idx (L ++ [d]) (mput m d.2 L.length) := by
  have hnone : mget m d.2 = none := by
    cases hg : mget m d.2 with
    | none => rfl
    | some i =>
      obtain ⟨x, hx, he⟩ := (h.get _ _).1 hg
      exact absurd he (hn x (List.mem_of_getElem? hx))
  refine ⟨fun id i => ?_, by rw [mput_length_none hnone, h.len]; simp, fun x hx => ?_, by simp; omega⟩
  · rw [mget_mput]
    by_cases hid : id = d.2
    · rw [if_pos hid]
      constructor
      · intro e
        injection e with e
        subst e
        exact ⟨d, by simp, hid.symm⟩
      · rintro ⟨x, hx, he⟩
        rw [List.getElem?_append] at hx
        split at hx
        · exact absurd (he.trans hid) (hn x (List.mem_of_getElem? hx))
        · rename_i hlt
          have : i - L.length = 0 := by
            rcases Nat.eq_zero_or_pos (i - L.length) with h0 | h0
            · exact h0
            · rw [List.getElem?_eq_none (by simp; omega)] at hx; cases hx
          rw [show L.length = i by omega]
    · rw [if_neg hid, h.get]
      constructor
      · rintro ⟨x, hx, he⟩
        exact ⟨x, by rw [List.getElem?_append_left (List.getElem?_eq_some_iff.1 hx).1]; exact hx, he⟩
      · rintro ⟨x, hx, he⟩
        rw [List.getElem?_append] at hx
        split at hx
        · exact ⟨x, hx, he⟩
        · have : x = d := by have := List.mem_of_getElem? hx; simpa using this
          exact absurd (by rw [← he, this]) hid
  · rcases List.mem_append.1 hx with hx | hx
    · exact h.ok x hx
    · simp at hx; rw [hx]; exact hk
theorem Idx.pop {L : List D2} {m : List (Int × Nat)} (hm : (m.map (·.1)).Nodup) (h : Idx L m) (hp : 0 < L.length) : Idx (L.take (L.length - 1)) (mdel m L[L.length - 1].2) := by
  have hlast : L[L.length - 1]? = some L[L.length - 1] := List.getElem?_eq_getElem (by omega)
  have hg : mget m L[L.length - 1].2 = some (L.length - 1) := (h.get _ _).2 ⟨_, hlast, rfl⟩
  refine ⟨fun id i => ?_, by have := mdel_length_some hm hg; rw [List.length_take, Nat.min_eq_left (by omega)]; have := h.len; omega, fun x hx => h.ok x (List.mem_of_mem_take hx), by have := h.small; simp; omega⟩
  rw [mget_mdel]
  by_cases hid : id = L[L.length - 1].2
  · rw [if_pos hid]
    constructor
    · intro e; cases e
    · rintro ⟨x, hx, he⟩
      rw [List.getElem?_take] at hx
      split at hx
      · rename_i hlt
        have := h.uniq hx hlast (by rw [he, hid])
        omega
      · cases hx
  · rw [if_neg hid, h.get]
    constructor
    · rintro ⟨x, hx, he⟩
      have hi := (List.getElem?_eq_some_iff.1 hx).1
      have : i ≠ L.length - 1 := by
        intro e
        subst e
        rw [hlast] at hx
        injection hx with hx
        exact hid (by rw [← he, ← hx])
      exact ⟨x, by rw [List.getElem?_take, if_pos (by omega)]; exact hx, he⟩
    · rintro ⟨x, hx, he⟩
      rw [List.getElem?_take] at hx
      split at hx
      · exact ⟨x, hx, he⟩
      · cases hx
end Go.Proofs.Ytcnifhkgibopbaa
