/- Digits: reading and writing a number; of no program. -/
import Derived.Test.YtbdklgibiadikaaDoorToxExt
set_option linter.unusedVariables false
set_option linter.unusedSimpArgs false
namespace Go.Proofs.YtbdklgibiadikaaDoor.Ext

def parseL : List UInt8 → Nat → Nat → Option Nat
  | [], _, n => some n
  | b :: l, i, n => if b.toNat < 48 ∨ 57 < b.toNat ∨ (0 < i ∧ n = 0) ∨ 13 < i then none else parseL l (i + 1) (10 * n + (b.toNat - 48))
def dgB (n : Nat) : UInt8 := UInt8.ofNat (48 + n)
theorem dgB_nat (n : Nat) (h : n < 10) : (dgB n).toNat = 48 + n := by
  unfold dgB
  simp
  omega
def textL : Nat → Nat → List UInt8
  | 0, n => [dgB n]
  | f + 1, n => if n < 10 then [dgB n] else textL f (n / 10) ++ [dgB (n % 10)]

theorem textN_list (f : Nat) : ∀ n, (textN f n).data.toList = textL f n := by
  induction f with
  | zero => intro n; rfl
  | succ f ih =>
    intro n
    unfold textN textL
    split
    · rfl
    · rw [← ih, ByteArray.data_append]
      simp [dg, dgB]

theorem bn_list (s : ByteArray) (i : Nat) (h : i < s.size) : s.data.toList[i]? = some (s[i]'h) := by
  have hl : i < s.data.toList.length := by cases s; exact h
  rw [List.getElem?_eq_getElem hl]
  rfl
theorem parseN_list (s : ByteArray) : ∀ (f i n : Nat), s.size - i ≤ f → i ≤ s.size → parseN f s i n = parseL (s.data.toList.drop i) i n := by
  intro f
  induction f with
  | zero =>
    intro i n hf hi
    have : s.data.toList.drop i = [] := List.drop_eq_nil_of_le (by cases s; simp only [ByteArray.size] at *; simp; omega)
    rw [this]
    rfl
  | succ f ih =>
    intro i n hf hi
    unfold parseN
    by_cases h : i < s.size
    · rw [if_pos h]
      have hl : i < s.data.toList.length := by cases s; exact h
      have hb : (s.data.toList[i]).toNat = bn s i := by
        rw [← bn_at s i h]; rfl
      rw [List.drop_eq_getElem_cons hl, parseL, hb, ih (i + 1) _ (by omega) (by omega)]
    · rw [if_neg h]
      have : s.data.toList.drop i = [] := List.drop_eq_nil_of_le (by cases s; simp only [ByteArray.size] at *; simp; omega)
      rw [this]
      rfl
theorem parse_list (s : ByteArray) : parseN s.size s 0 0 = parseL s.data.toList 0 0 := by
  rw [parseN_list s s.size 0 0 (by omega) (by omega), List.drop_zero]

theorem parseL_snoc (b : UInt8) : ∀ (l : List UInt8) (i n : Nat), parseL (l ++ [b]) i n = (parseL l i n).bind fun m =>
    if b.toNat < 48 ∨ 57 < b.toNat ∨ (0 < i + l.length ∧ m = 0) ∨ 13 < i + l.length then none else some (10 * m + (b.toNat - 48)) := by
  intro l
  induction l with
  | nil => intro i n; rfl
  | cons x l ih =>
    intro i n
    rw [List.cons_append, parseL, parseL]
    split
    · rfl
    · rw [ih, show i + 1 + l.length = i + (x :: l).length by simp; omega]

theorem textL_len (f : Nat) : ∀ (j n : Nat), n < 10 ^ (j + 1) → (textL f n).length ≤ j + 1 := by
  induction f with
  | zero => intro j n h; simp [textL]
  | succ f ih =>
    intro j n h
    unfold textL
    split
    · simp
    · cases j with
      | zero => simp at h; omega
      | succ j =>
        have := ih j (n / 10) (by rw [Nat.pow_succ] at h; omega)
        simp
        omega
theorem textL_pos (f n : Nat) : 0 < (textL f n).length := by
  cases f <;> unfold textL
  · simp
  · split <;> simp
theorem textL_fuel (f : Nat) : ∀ n, n < 10 ^ (f + 1) → textL (f + 1) n = textL f n := by
  induction f with
  | zero =>
    intro n h
    have : n < 10 := by simpa using h
    simp [textL, this]
  | succ f ih =>
    intro n h
    by_cases h10 : n < 10
    · simp [textL, h10]
    · rw [textL, if_neg h10, ih (n / 10) (by rw [Nat.pow_succ] at h; omega)]
      conv => rhs; rw [textL, if_neg h10]
theorem textL_parse (f : Nat) : ∀ n, n < 10 ^ (f + 1) → n < 10 ^ 14 → parseL (textL f n) 0 0 = some n := by
  have small : ∀ n, n < 10 → parseL [dgB n] 0 0 = some n := by
    intro n h
    rw [parseL, dgB_nat n h, if_neg (by omega), parseL]
    congr 1; omega
  induction f with
  | zero => intro n h _; exact small n (by simpa using h)
  | succ f ih =>
    intro n h h14
    unfold textL
    split
    · exact small n (by assumption)
    · rename_i h10
      have hlen := textL_len f 12 (n / 10) (by simp at h14 ⊢; omega)
      have hpos := textL_pos f (n / 10)
      rw [parseL_snoc, ih (n / 10) (by rw [Nat.pow_succ] at h; omega) (by omega), Option.bind_some, dgB_nat _ (Nat.mod_lt _ (by omega)), if_neg (by omega)]
      congr 1
      omega
theorem parse_textL : ∀ (k : Nat) (l : List UInt8) (n : Nat), l.length = k → l ≠ [] → parseL l 0 0 = some n → n < 10 ^ k ∧ (∀ f, n < 10 ^ (f + 1) → l = textL f n) := by
  intro k
  induction k with
  | zero => intro l n hk hl; exact absurd (List.eq_nil_of_length_eq_zero hk) hl
  | succ k ih =>
    intro l n hk hl hp
    obtain ⟨l', b, rfl⟩ : ∃ l' b, l = l' ++ [b] := ⟨l.dropLast, l.getLast hl, (List.dropLast_concat_getLast hl).symm⟩
    rw [parseL_snoc] at hp
    cases hq : parseL l' 0 0 with
    | none => rw [hq] at hp; cases hp
    | some m =>
      rw [hq, Option.bind_some] at hp
      split at hp
      · cases hp
      · rename_i hc
        obtain rfl := Option.some.inj hp
        have hbb : b = dgB (b.toNat - 48) := by
          apply UInt8.toNat_inj.1
          rw [dgB_nat _ (by omega)]
          omega
        by_cases h0 : l' = []
        · subst h0
          have hm : m = 0 := by simp [parseL] at hq; exact hq.symm
          subst hm
          refine ⟨?_, fun f _ => ?_⟩
          · have : 10 ^ (k + 1) ≥ 10 ^ 1 := Nat.pow_le_pow_right (by omega) (by omega)
            omega
          · have hlt : 10 * 0 + (b.toNat - 48) < 10 := by omega
            have : textL f (10 * 0 + (b.toNat - 48)) = [dgB (10 * 0 + (b.toNat - 48))] := by
              cases f
              · rfl
              · rw [textL, if_pos hlt]
            rw [this, Nat.mul_zero, Nat.zero_add, ← hbb]
            rfl
        · have hlen : 0 < l'.length := List.length_pos_iff.2 h0
          obtain ⟨h1, h2⟩ := ih l' m (by simp at hk; omega) h0 hq
          refine ⟨by rw [Nat.pow_succ]; omega, fun f hf => ?_⟩
          cases f with
          | zero => simp at hf; omega
          | succ f =>
            rw [textL, if_neg (by omega), show (10 * m + (b.toNat - 48)) / 10 = m by omega, show (10 * m + (b.toNat - 48)) % 10 = b.toNat - 48 by omega, ← hbb]
            rw [← h2 f (by rw [Nat.pow_succ] at hf; omega)]

/-- What is written is read as it. -/
theorem tickParse_text (a : Int) : tickParse (tickText a) = ((nearN a : Int), 0) := by
  have hn : nearN a ≤ 1099511627776 := by unfold nearN; omega
  unfold tickParse tickText
  rw [parse_list, textN_list, textL_parse 14 _ (Nat.lt_of_le_of_lt hn (by decide)) (Nat.lt_of_le_of_lt hn (by decide))]
  have hs : (textN 14 (nearN a)).size ≠ 0 := by
    have h1 := textL_pos 14 (nearN a)
    rw [← textN_list] at h1
    have : (textN 14 (nearN a)).size = (textN 14 (nearN a)).data.toList.length := by cases textN 14 (nearN a); rfl
    omega
  simp only
  rw [if_neg (by omega)]
/-- What is read was written so. -/
theorem tickParse_ok (s : ByteArray) (n : Int) (h : tickParse s = (n, 0)) : 0 ≤ n ∧ n ≤ 1099511627776 ∧ tickText n = s := by
  unfold tickParse at h
  rw [parse_list] at h
  cases hq : parseL s.data.toList 0 0 with
  | none => rw [hq] at h; simp at h
  | some m =>
    rw [hq] at h
    simp only at h
    split at h
    · simp at h
    · rename_i hc
      obtain ⟨rfl, _⟩ := Prod.mk.inj h
      have hne : s.data.toList ≠ [] := by
        intro h0
        apply hc
        left
        have : s.size = s.data.toList.length := by cases s; rfl
        rw [this, h0]; rfl
      have hm : m ≤ 1099511627776 := by omega
      have hnear : nearN (m : Int) = m := by unfold nearN; omega
      have := (parse_textL _ _ m rfl hne hq).2 14 (Nat.lt_of_le_of_lt hm (by decide))
      refine ⟨by omega, by omega, ?_⟩
      unfold tickText
      rw [hnear]
      apply ByteArray.ext
      apply Array.toList_inj.1
      rw [textN_list, ← this]
/-- Its error is 0 or 10. -/
theorem tickParse_err (s : ByteArray) : (tickParse s).2 = 0 ∨ tickParse s = (0, 10) := by
  unfold tickParse
  split
  · exact .inr rfl
  · split
    · exact .inr rfl
    · exact .inl rfl
end Go.Proofs.YtbdklgibiadikaaDoor.Ext
