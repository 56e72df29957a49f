/- Plain laws: rise and sink make a heap again; what is taken is in order. -/
import Derived.Test.YtcnifhkgibopbaaAlarmG
set_option linter.unusedVariables false
set_option linter.unusedSimpArgs false
namespace Go.Proofs.Ytcnifhkgibopbaa

def le (a b : D2) : Prop := a.1 < b.1 ∨ (a.1 = b.1 ∧ a.2 ≤ b.2)
def lt (a b : D2) : Prop := a.1 < b.1 ∨ (a.1 = b.1 ∧ a.2 < b.2)
theorem ahead_true {a b : D2} : aheadB a b = true ↔ lt a b := by
  unfold aheadB lt
  simp
theorem ahead_false {a b : D2} : aheadB a b = false ↔ le b a := by
  rw [← Bool.not_eq_true, ahead_true]
  unfold lt le
  omega
theorem le_trans' {a b c : D2} (h : le a b) (k : le b c) : le a c := by unfold le at *; omega
theorem le_refl' (a : D2) : le a a := by unfold le; omega
theorem lt_le {a b : D2} (h : lt a b) : le a b := by unfold le lt at *; omega
theorem le_of_not {a b : D2} (h : ¬ lt a b) : le b a := by unfold le lt at *; omega

/-- As a function: place by place. -/
def fn (L : List D2) (i : Nat) : D2 := L.getD i (0, 0)
theorem fn_swap {L : List D2} {i k : Nat} (hi : i < L.length) (hk : k < L.length) (j : Nat) : fn (swapL L i k) j = if j = k then fn L i else if j = i then fn L k else fn L j := by
  unfold fn
  rw [List.getD_eq_getElem?_getD, swapL_at hi hk]
  by_cases h1 : j = k
  · rw [if_pos h1, if_pos h1]; simp [hi]
  · rw [if_neg h1, if_neg h1]
    by_cases h2 : j = i
    · rw [if_pos h2, if_pos h2]; simp [hk]
    · rw [if_neg h2, if_neg h2]; simp

def HeapF (f : Nat → D2) (n : Nat) : Prop := ∀ i, 0 < i → i < n → le (f ((i - 1) / 2)) (f i)
def Heap (L : List D2) : Prop := HeapF (fn L) L.length
/-- All but what is above k. -/
def HX (f : Nat → D2) (n k : Nat) : Prop := (∀ i, 0 < i → i < n → i ≠ k → le (f ((i - 1) / 2)) (f i)) ∧ (0 < k → ∀ c, c < n → 0 < c → (c - 1) / 2 = k → le (f ((k - 1) / 2)) (f c))
/-- All but what is below k. -/
def HD (f : Nat → D2) (n k : Nat) : Prop := (∀ i, 0 < i → i < n → (i - 1) / 2 ≠ k → le (f ((i - 1) / 2)) (f i)) ∧ (0 < k → ∀ c, c < n → 0 < c → (c - 1) / 2 = k → le (f ((k - 1) / 2)) (f c))

theorem rise_heap (fuel : Nat) : ∀ (L : List D2) (k : Nat), k ≤ fuel → k < L.length → HX (fn L) L.length k → Heap (riseL fuel L k) := by
  induction fuel with
  | zero =>
    intro L k hf hk h
    obtain rfl : k = 0 := by omega
    exact fun i h0 hi => h.1 i h0 hi (by omega)
  | succ fuel ih =>
    intro L k hf hk h
    unfold riseL
    split
    · rename_i hc
      simp only [Bool.and_eq_true, decide_eq_true_eq, ahead_true] at hc
      obtain ⟨h0, hlt⟩ := hc
      have hp : (k - 1) / 2 < L.length := by omega
      refine ih _ _ (by omega) (by rw [swapL_length]; exact hp) ?_
      rw [swapL_length]
      refine ⟨fun i i0 hi hne => ?_, fun p0 c hc c0 hpc => ?_⟩
      · rw [fn_swap hk hp, fn_swap hk hp, if_neg hne]
        by_cases h1 : i = k
        · rw [if_pos h1, if_pos (by rw [h1])]
          exact lt_le hlt
        · rw [if_neg h1]
          by_cases h2 : (i - 1) / 2 = (k - 1) / 2
          · rw [if_pos h2]
            refine le_trans' (lt_le hlt) ?_
            have := h.1 i i0 hi h1
            rw [h2] at this
            exact this
          · rw [if_neg h2]
            by_cases h3 : (i - 1) / 2 = k
            · rw [if_pos h3]
              exact h.2 h0 i hi i0 h3
            · rw [if_neg h3]
              exact h.1 i i0 hi h1
      · rw [fn_swap hk hp, fn_swap hk hp, if_neg (by omega), if_neg (by omega), if_neg (by omega)]
        have h5 := h.1 ((k - 1) / 2) p0 hp (by omega)
        by_cases h1 : c = k
        · rw [if_pos h1]; exact h5
        · rw [if_neg h1]
          refine le_trans' h5 ?_
          have := h.1 c c0 hc h1
          rw [hpc] at this
          exact this
    · rename_i hc
      simp only [Bool.and_eq_true, decide_eq_true_eq, ahead_true, not_and] at hc
      intro i i0 hi
      by_cases h1 : i = k
      · subst h1
        exact le_of_not (hc i0)
      · exact h.1 i i0 hi h1

theorem best_spec (L : List D2) (k : Nat) (hk : k < L.length) : (bestL L k = k ∨ (bestL L k - 1) / 2 = k ∧ 0 < bestL L k ∧ lt (fn L (bestL L k)) (fn L k)) ∧ ∀ c, c < L.length → 0 < c → (c - 1) / 2 = k → le (fn L (bestL L k)) (fn L c) := by
  have step : ∀ b kid, (kid < L.length → le (fn L (bestS L b kid)) (fn L kid)) ∧ le (fn L (bestS L b kid)) (fn L b) ∧ (bestS L b kid = b ∨ bestS L b kid = kid ∧ lt (fn L kid) (fn L b)) := by
    intro b kid
    unfold bestS
    split
    · rename_i hc
      simp only [Bool.and_eq_true, decide_eq_true_eq, ahead_true] at hc
      exact ⟨fun _ => le_refl' _, lt_le hc.2, .inr ⟨rfl, hc.2⟩⟩
    · rename_i hc
      simp only [Bool.and_eq_true, decide_eq_true_eq, ahead_true, not_and] at hc
      exact ⟨fun h => le_of_not (hc h), le_refl' _, .inl rfl⟩
  obtain ⟨s1, s2, s3⟩ := step k (2 * k + 1)
  obtain ⟨t1, t2, t3⟩ := step (bestS L k (2 * k + 1)) (2 * k + 2)
  unfold bestL
  refine ⟨?_, fun c hc c0 hpc => ?_⟩
  · rcases t3 with e | ⟨e, hl⟩
    · rw [e]
      rcases s3 with e' | ⟨e', hl⟩
      · exact .inl e'
      · rw [e']; exact .inr ⟨by omega, by omega, hl⟩
    · rw [e]
      refine .inr ⟨by omega, by omega, ?_⟩
      have := s2
      unfold le lt at *
      omega
  · have : c = 2 * k + 1 ∨ c = 2 * k + 2 := by omega
    rcases this with rfl | rfl
    · exact le_trans' t2 (s1 hc)
    · exact t1 hc

theorem sink_heap (fuel : Nat) : ∀ (L : List D2) (k : Nat), L.length ≤ k + fuel → k < L.length → HD (fn L) L.length k → Heap (sinkL fuel L k) := by
  induction fuel with
  | zero => intro L k hf hk; omega
  | succ fuel ih =>
    intro L k hf hk h
    obtain ⟨hb, hm⟩ := best_spec L k hk
    have hbl := bestL_lt hk
    unfold sinkL
    split
    · rename_i he
      rw [he] at hm
      intro i i0 hi
      by_cases h1 : (i - 1) / 2 = k
      · rw [h1]; exact hm i hi i0 h1
      · exact h.1 i i0 hi h1
    · rename_i hne
      have hgt := bestL_gt hne
      rcases hb with e | ⟨hpb, hb0, hlt⟩
      · exact absurd e hne
      generalize bestL L k = b at *
      refine ih _ _ (by rw [swapL_length]; omega) (by rw [swapL_length]; exact hbl) ?_
      rw [swapL_length]
      refine ⟨fun i i0 hi hnp => ?_, fun _ c hc c0 hpc => ?_⟩
      · rw [fn_swap hk hbl, fn_swap hk hbl, if_neg hnp]
        by_cases h1 : i = b
        · rw [if_pos h1, if_pos (by rw [h1]; exact hpb)]
          exact lt_le hlt
        · rw [if_neg h1]
          by_cases h2 : i = k
          · rw [if_pos h2, if_neg (by omega), h2]
            exact h.2 (by omega) b hbl hb0 hpb
          · rw [if_neg h2]
            by_cases h3 : (i - 1) / 2 = k
            · rw [if_pos h3]
              exact hm i hi i0 h3
            · rw [if_neg h3]
              exact h.1 i i0 hi h3
      · rw [fn_swap hk hbl, fn_swap hk hbl, if_neg (by omega), if_pos hpb, if_neg (by omega), if_neg (by omega)]
        have := h.1 c c0 hc (by omega)
        rw [hpc] at this
        exact this

theorem sink_id (fuel : Nat) (L : List D2) (k : Nat) (hk : k < L.length) (h : Heap L) : sinkL fuel L k = L := by
  cases fuel with
  | zero => rfl
  | succ fuel =>
    unfold sinkL
    rw [if_pos]
    obtain ⟨hb, _⟩ := best_spec L k hk
    rcases hb with e | ⟨hpb, hb0, hlt⟩
    · exact e
    · have := h _ hb0 (bestL_lt hk)
      rw [hpb] at this
      unfold le lt at *
      omega

/-- What is at k is anything; all else is right. -/
def HB (f : Nat → D2) (n k : Nat) : Prop := (∀ i, 0 < i → i < n → i ≠ k → (i - 1) / 2 ≠ k → le (f ((i - 1) / 2)) (f i)) ∧ (0 < k → ∀ c, c < n → 0 < c → (c - 1) / 2 = k → le (f ((k - 1) / 2)) (f c))
theorem both_heap (fuel f2 : Nat) (L : List D2) (k : Nat) (hf : k ≤ fuel) (hf2 : L.length ≤ k + f2) (hk : k < L.length) (h : HB (fn L) L.length k) : Heap (sinkL f2 (riseL fuel L k) k) := by
  by_cases hc : 0 < k ∧ lt (fn L k) (fn L ((k - 1) / 2))
  · have hx : HX (fn L) L.length k := by
      refine ⟨fun i i0 hi hne => ?_, h.2⟩
      by_cases h1 : (i - 1) / 2 = k
      · rw [h1]
        exact le_trans' (lt_le hc.2) (h.2 hc.1 i hi i0 h1)
      · exact h.1 i i0 hi hne h1
    have hh := rise_heap fuel L k hf hk hx
    rw [sink_id _ _ _ (by rw [riseL_length]; exact hk) hh]
    exact hh
  · have hr : riseL fuel L k = L := by
      cases fuel with
      | zero => rfl
      | succ fuel =>
        unfold riseL
        rw [if_neg]
        simp only [Bool.and_eq_true, decide_eq_true_eq, ahead_true]
        exact hc
    rw [hr]
    refine sink_heap f2 L k hf2 hk ⟨fun i i0 hi hnp => ?_, h.2⟩
    by_cases h1 : i = k
    · subst h1
      exact le_of_not fun hl => hc ⟨i0, hl⟩
    · exact h.1 i i0 hi h1 hnp

theorem fn_append {L : List D2} {d : D2} {i : Nat} (h : i < L.length) : fn (L ++ [d]) i = fn L i := by
  unfold fn
  rw [List.getD_eq_getElem?_getD, List.getElem?_append_left h, List.getD_eq_getElem?_getD]
theorem fn_take {L : List D2} {n i : Nat} (h : i < n) : fn (L.take n) i = fn L i := by
  unfold fn
  rw [List.getD_eq_getElem?_getD, List.getElem?_take, if_pos h, List.getD_eq_getElem?_getD]
theorem set_heap {L : List D2} (h : Heap L) (at_ id : Int) : Heap (setL L at_ id) := by
  unfold setL
  refine rise_heap _ _ _ (Nat.le_refl _) (by simp) ⟨fun i i0 hi hne => ?_, fun _ c hc c0 hpc => ?_⟩
  · have : i < L.length := by simp at hi; omega
    rw [fn_append this, fn_append (by omega)]
    exact h i i0 this
  · simp at hc; omega
theorem drop_heap {L : List D2} (h : Heap L) {k : Nat} (hk : k < L.length) : Heap (dropL L k) := by
  have hl : ((swapL L k (L.length - 1)).take (L.length - 1)).length = L.length - 1 := by rw [List.length_take, swapL_length]; omega
  have hf : ∀ j, j < L.length - 1 → fn ((swapL L k (L.length - 1)).take (L.length - 1)) j = if j = k then fn L (L.length - 1) else fn L j := by
    intro j hj
    rw [fn_take hj, fn_swap hk (by omega), if_neg (by omega)]
  unfold dropL
  dsimp only
  split
  · rename_i hkl
    refine both_heap _ _ _ _ (Nat.le_refl _) (by omega) (by omega) ⟨fun i i0 hi hne hnp => ?_, fun k0 c hc c0 hpc => ?_⟩
    · rw [hl] at hi
      rw [hf _ (by omega), hf _ hi, if_neg hne, if_neg hnp]
      exact h i i0 (by omega)
    · rw [hl] at hc
      rw [hf _ (by omega), hf _ hc, if_neg (by omega), if_neg (by omega)]
      have h1 := h k k0 (by omega)
      have h2 := h c c0 (by omega)
      rw [hpc] at h2
      exact le_trans' h1 h2
  · rename_i hkl
    intro i i0 hi
    rw [hl] at hi
    rw [hf _ (by omega), hf _ hi, if_neg (by omega), if_neg (by omega)]
    exact h i i0 (by omega)
theorem heap_root {L : List D2} (h : Heap L) : ∀ i, i < L.length → le (fn L 0) (fn L i) := by
  intro i
  induction i using Nat.strongRecOn with
  | _ i ih =>
    intro hi
    rcases Nat.eq_zero_or_pos i with h0 | h0
    · subst h0; exact le_refl' _
    · exact le_trans' (ih ((i - 1) / 2) (by omega) (by omega)) (h i h0 hi)

/-! ### The same elements -/
theorem swap_perm {L : List D2} {i k : Nat} (hi : i < L.length) (hk : k < L.length) : (swapL L i k).Perm L := by
  rw [swapL_eq hi hk]
  exact List.set_set_perm hi hk
theorem rise_perm (fuel : Nat) : ∀ (L : List D2) (k : Nat), k < L.length → (riseL fuel L k).Perm L := by
  induction fuel with
  | zero => intro L k hk; exact List.Perm.refl _
  | succ fuel ih =>
    intro L k hk
    unfold riseL
    split
    · exact (ih _ _ (by rw [swapL_length]; omega)).trans (swap_perm hk (by omega))
    · exact List.Perm.refl _
theorem sink_perm (fuel : Nat) : ∀ (L : List D2) (k : Nat), k < L.length → (sinkL fuel L k).Perm L := by
  induction fuel with
  | zero => intro L k hk; exact List.Perm.refl _
  | succ fuel ih =>
    intro L k hk
    unfold sinkL
    split
    · exact List.Perm.refl _
    · exact (ih _ _ (by rw [swapL_length]; exact bestL_lt hk)).trans (swap_perm hk (bestL_lt hk))
theorem set_perm' (L : List D2) (at_ id : Int) : (setL L at_ id).Perm (L ++ [(at_, id)]) := rise_perm _ _ _ (by simp)
theorem drop_perm {L : List D2} {k : Nat} (hk : k < L.length) : (L[k] :: dropL L k).Perm L := by
  have hs := swap_perm hk (show L.length - 1 < L.length by omega)
  have hl : ((swapL L k (L.length - 1)).take (L.length - 1)).length = L.length - 1 := by rw [List.length_take, swapL_length]; omega
  have hlast : (swapL L k (L.length - 1)) = (swapL L k (L.length - 1)).take (L.length - 1) ++ [L[k]] := by
    apply List.ext_getElem?
    intro j
    rw [List.getElem?_append, hl]
    by_cases hj : j < L.length - 1
    · rw [if_pos hj, List.getElem?_take, if_pos hj]
    · rw [if_neg hj, swapL_at hk (by omega)]
      by_cases h1 : j = L.length - 1
      · rw [if_pos h1, h1]; simp
      · rw [if_neg h1, if_neg (by omega), List.getElem?_eq_none (by omega), List.getElem?_eq_none (by simp; omega)]
  have hd : (dropL L k).Perm ((swapL L k (L.length - 1)).take (L.length - 1)) := by
    unfold dropL
    dsimp only
    split
    · rename_i h
      exact (sink_perm _ _ _ (by rw [riseL_length, hl]; exact h)).trans (rise_perm _ _ _ (by rw [hl]; exact h))
    · exact List.Perm.refl _
  refine List.Perm.trans ?_ hs
  conv => rhs; rw [hlast]
  exact ((List.Perm.cons _ hd).trans (List.perm_append_singleton _ _).symm)

/-- What is taken: in order, all that are due; the others stay. -/
theorem take_spec (fuel : Nat) : ∀ (now : Int) (L : List D2), L.length ≤ fuel → Heap L →
    ((takeL fuel now L).1 ++ (takeL fuel now L).2).Perm L ∧ (takeL fuel now L).1.Pairwise le ∧ (∀ d ∈ (takeL fuel now L).1, d.1 ≤ now) ∧ (∀ d ∈ (takeL fuel now L).2, now < d.1) ∧ Heap (takeL fuel now L).2 := by
  induction fuel with
  | zero =>
    intro now L hl h
    obtain rfl : L = [] := List.eq_nil_of_length_eq_zero (by omega)
    exact ⟨List.Perm.refl _, by simp [takeL], by simp [takeL], by simp [takeL], h⟩
  | succ fuel ih =>
    intro now L hl h
    unfold takeL
    split
    · rename_i hc
      simp only [Bool.and_eq_true, Bool.not_eq_true', decide_eq_true_eq] at hc
      have h0 : 0 < L.length := by
        cases L with
        | nil => simp at hc
        | cons d r => simp
      have hd0 : L.getD 0 (0, 0) = L[0] := getD_lt h0
      obtain ⟨i1, i2, i3, i4, i5⟩ := ih now (dropL L 0) (by rw [dropL_length h0]; omega) (drop_heap h h0)
      have hp := drop_perm h0
      refine ⟨?_, ?_, ?_, i4, i5⟩
      · rw [hd0]
        simp only [List.cons_append]
        exact (List.Perm.cons _ i1).trans hp
      · rw [List.pairwise_cons]
        refine ⟨fun d hd => ?_, i2⟩
        have hm : d ∈ L := hp.mem_iff.1 (List.mem_cons_of_mem _ (i1.mem_iff.1 (List.mem_append_left _ hd)))
        obtain ⟨j, hj, rfl⟩ := List.mem_iff_getElem.1 hm
        have := heap_root h j hj
        unfold fn at this
        rw [getD_lt hj] at this
        exact this
      · intro d hd
        rcases List.mem_cons.1 hd with rfl | hd
        · exact hc.2
        · exact i3 d hd
    · rename_i hc
      refine ⟨List.Perm.refl _, by simp, by simp, fun d hd => ?_, h⟩
      have h0 : 0 < L.length := List.length_pos_of_mem hd
      have he : L.isEmpty = false := by
        cases L with
        | nil => simp at h0
        | cons d r => rfl
      simp only [he, Bool.not_false, Bool.true_and, decide_eq_true_eq] at hc
      obtain ⟨j, hj, rfl⟩ := List.mem_iff_getElem.1 hd
      have := heap_root h j hj
      unfold fn at this
      rw [getD_lt hj] at this
      unfold le at this
      omega
theorem heap_nil : Heap [] := fun i _ hi => by simp at hi
end Go.Proofs.Ytcnifhkgibopbaa
