/- Cutting a text at blanks, and putting the parts together again; of no program. -/
import Derived.Test.YtbdklgibiadikaaDoorToxExt
import Derived.Test.YtbdklgibiadikaaDoorToxZR
set_option linter.unusedVariables false
set_option linter.unusedSimpArgs false
namespace Go.Proofs.YtbdklgibiadikaaDoor.Cut
open Go.Proofs.YtbdklgibiadikaaDoor.Ext Go.Proofs.YtbdklgibiadikaaDoor.ToxRef

/-- The parts of a text at a sign. -/
def cutL (c : UInt8) : List UInt8 → List (List UInt8)
  | [] => [[]]
  | b :: l => if b = c then [] :: cutL c l else match cutL c l with
    | [] => [[b]]
    | x :: xs => (b :: x) :: xs
theorem cutL_ne (c : UInt8) (l : List UInt8) : cutL c l ≠ [] := by
  cases l with
  | nil => simp [cutL]
  | cons b l => unfold cutL; split; simp; split <;> simp
theorem index_cons_eq (c : UInt8) (l : List UInt8) : Lib.index (c :: l) [c] = 0 := by rw [Lib.index]; simp [List.isPrefixOf]
theorem index_cons_ne (b c : UInt8) (l : List UInt8) (h : b ≠ c) : Lib.index (b :: l) [c] = if Lib.index l [c] == -1 then -1 else Lib.index l [c] + 1 := by
  have hp : ([c] : List UInt8).isPrefixOf (b :: l) = false := by simp [List.isPrefixOf, Ne.symm h]
  rw [Lib.index, hp]; simp
theorem splitK_cut (c : UInt8) : ∀ l : List UInt8, Lib.splitK [c] 0 (Lib.count l [c]) l = cutL c l := by
  intro l
  induction l with
  | nil => rw [Lib.count_miss (by simp [Lib.index])]; rfl
  | cons b l ih =>
    unfold cutL
    by_cases h : b = c
    · subst h
      rw [if_pos rfl, Lib.count_cons_eq, Nat.add_comm, Lib.splitK, index_cons_eq, if_neg (by decide), ← ih]
      simp
    · rw [if_neg h, Lib.count_cons_ne b c l h]
      by_cases hm : Lib.index l [c] = -1
      · rw [Lib.count_miss hm] at ih ⊢
        rw [← ih]
        rfl
      · have hge := Lib.index_ge l [c]
        obtain ⟨j, hj⟩ : ∃ j : Nat, Lib.index l [c] = j := ⟨(Lib.index l [c]).toNat, by omega⟩
        rw [Lib.count_hit (by simp) hj, Nat.add_comm] at ih ⊢
        rw [Lib.splitK] at ih ⊢
        have hix : Lib.index (b :: l) [c] = ((j + 1 : Nat) : Int) := by rw [index_cons_ne b c l h, if_neg (fun e => hm (beq_iff_eq.1 e)), hj]; omega
        rw [hix, if_neg (by simp; omega)]
        rw [hj, if_neg (by simp)] at ih
        rw [← ih]
        simp [Nat.add_comm, Nat.add_left_comm, List.drop_succ_cons]
theorem cutL_join (c : UInt8) : ∀ l : List UInt8, Lib.join (cutL c l) [c] = l := by
  intro l
  induction l with
  | nil => simp [cutL, Lib.join_one]
  | cons b l ih =>
    unfold cutL
    have hne := cutL_ne c l
    by_cases h : b = c
    · rw [if_pos h]
      cases hq : cutL c l with
      | nil => exact absurd hq hne
      | cons x xs =>
        rw [hq] at ih
        subst h
        conv => rhs; rw [← ih]
        simp [Lib.join, List.intercalate, List.intersperse]
    · rw [if_neg h]
      cases hq : cutL c l with
      | nil => exact absurd hq hne
      | cons x xs =>
        rw [hq] at ih
        conv => rhs; rw [← ih]
        simp only
        rw [Lib.join_cons, Lib.join_cons]
        rfl
theorem cutL_none (c : UInt8) : ∀ x : List UInt8, c ∉ x → cutL c x = [x] := by
  intro x
  induction x with
  | nil => intro _; rfl
  | cons b l ih =>
    intro h
    rw [List.mem_cons, not_or] at h
    rw [cutL, if_neg (Ne.symm h.1), ih h.2]
theorem cutL_app (c : UInt8) (r : List UInt8) : ∀ x : List UInt8, c ∉ x → cutL c (x ++ c :: r) = x :: cutL c r := by
  intro x
  induction x with
  | nil => intro _; rw [List.nil_append, cutL, if_pos rfl]
  | cons b l ih =>
    intro h
    rw [List.mem_cons, not_or] at h
    rw [List.cons_append, cutL, if_neg (Ne.symm h.1), ih h.2]
theorem cutL_of_join (c : UInt8) : ∀ xs : List (List UInt8), xs ≠ [] → (∀ x ∈ xs, c ∉ x) → cutL c (Lib.join xs [c]) = xs := by
  intro xs
  induction xs with
  | nil => intro h; exact absurd rfl h
  | cons x r ih =>
    intro _ h
    cases r with
    | nil => rw [Lib.join_one]; exact cutL_none c x (h x (by simp))
    | cons y r =>
      have e : Lib.join (x :: y :: r) [c] = x ++ c :: Lib.join (y :: r) [c] := by simp [Lib.join, List.intercalate, List.intersperse]
      rw [e, cutL_app c _ x (h x (by simp)), ih (by simp) (fun z hz => h z (by simp [List.mem_cons] at hz ⊢; exact .inr hz))]

theorem map_data_inj : ∀ {a b : List ByteArray}, a.map (·.data.toList) = b.map (·.data.toList) → a = b := by
  intro a
  induction a with
  | nil => intro b h; cases b; rfl; simp at h
  | cons x a ih =>
    intro b h
    cases b with
    | nil => simp at h
    | cons y b =>
      simp only [List.map_cons, List.cons.injEq] at h
      rw [ih h.2, show x = y from ByteArray.ext (Array.toList_inj.1 h.1)]
theorem parts_data (s : ByteArray) : (parts s).map (·.data.toList) = cutL 32 s.data.toList := by
  unfold parts
  rw [Lib.splitB_data, ← splitK_cut]
  rfl
theorem joined_data (l : List ByteArray) : (joined l ⟨#[32]⟩).data.toList = Lib.join (l.map (·.data.toList)) [32] := by
  simp [joined]
/-- The parts, put together, are the text. -/
theorem joined_parts (s : ByteArray) : joined (parts s) ⟨#[32]⟩ = s := by
  apply ByteArray.ext
  apply Array.toList_inj.1
  rw [joined_data, parts_data, cutL_join]
/-- Parts without a blank, put together, are cut as they were. -/
theorem parts_joined (l : List ByteArray) (h0 : l ≠ []) (h : ∀ x ∈ l, (32 : UInt8) ∉ x.data.toList) : parts (joined l ⟨#[32]⟩) = l := by
  apply map_data_inj
  rw [parts_data, joined_data, cutL_of_join]
  · simpa using h0
  · intro x hx
    obtain ⟨y, hy, rfl⟩ := List.mem_map.1 hx
    exact h y hy

/-- The document's splitting is the same. -/
theorem bn_get (s : ByteArray) (i : Nat) (h : i < s.data.toList.length) : (s.data.toList[i]).toNat = bn s i := by
  have hl : i < s.size := by cases s; exact h
  rw [← bn_at s i hl]; rfl
theorem spl_cut (s : ByteArray) : ∀ (f i : Nat) (ini : List ByteArray) (last : ByteArray), s.size - i ≤ f → i ≤ s.size →
    ∃ x xs, cutL 32 (s.data.toList.drop i) = x :: xs ∧ (spl f s i (ini ++ [last])).map (·.data.toList) = ini.map (·.data.toList) ++ (last.data.toList ++ x) :: xs := by
  intro f
  have hsz : s.size = s.data.toList.length := by cases s; rfl
  induction f with
  | zero =>
    intro i ini last hf hi
    have : s.data.toList.drop i = [] := List.drop_eq_nil_of_le (by omega)
    rw [this]
    exact ⟨[], [], rfl, by simp [spl]⟩
  | succ f ih =>
    intro i ini last hf hi
    unfold spl
    by_cases hl : i < s.size
    · rw [if_pos hl]
      have hl' : i < s.data.toList.length := by omega
      rw [List.drop_eq_getElem_cons hl']
      have hb := bn_get s i hl'
      by_cases h32 : bn s i = 32
      · rw [if_pos h32]
        have hc : s.data.toList[i] = 32 := UInt8.toNat_inj.1 (by rw [hb, h32]; rfl)
        obtain ⟨x, xs, h1, h2⟩ := ih (i + 1) (ini ++ [last]) ⟨#[]⟩ (by omega) (by omega)
        refine ⟨[], x :: xs, by rw [cutL, if_pos hc, h1], ?_⟩
        rw [h2]
        simp
      · rw [if_neg h32]
        have hc : s.data.toList[i] ≠ 32 := by intro h; apply h32; rw [← hb, h]; rfl
        have e1 : (ini ++ [last]).length - 1 = ini.length := by simp
        have e2 : (ini ++ [last]).getD ini.length ByteArray.empty = last := by simp
        have e3 : ∀ y, (ini ++ [last]).set ini.length y = ini ++ [y] := by intro y; simp
        rw [e1, e2, e3]
        obtain ⟨x, xs, h1, h2⟩ := ih (i + 1) ini (last ++ s.extract i (i + 1)) (by omega) (by omega)
        refine ⟨s.data.toList[i] :: x, xs, by rw [cutL, if_neg hc, h1], ?_⟩
        rw [h2]
        have he : (s.extract i (i + 1)).data.toList = [s.data.toList[i]] := by
          rw [Lib.extract_data]
          simp [List.take_one, List.head?_drop]
        rw [ByteArray.data_append, Array.toList_append, he]
        simp
    · rw [if_neg hl]
      have : s.data.toList.drop i = [] := List.drop_eq_nil_of_le (by omega)
      rw [this]
      exact ⟨[], [], rfl, by simp⟩
theorem spl_is (s : ByteArray) : spl s.size s 0 [⟨#[]⟩] = parts s := by
  apply map_data_inj
  rw [parts_data]
  obtain ⟨x, xs, h1, h2⟩ := spl_cut s s.size 0 [] ⟨#[]⟩ (by omega) (by omega)
  rw [List.drop_zero] at h1
  rw [h1]
  simpa using h2
end Go.Proofs.YtbdklgibiadikaaDoor.Cut
