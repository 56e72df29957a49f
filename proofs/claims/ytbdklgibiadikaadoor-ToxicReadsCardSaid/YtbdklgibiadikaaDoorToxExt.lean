/- The contracts of tick.Parse and tick.Text. -/
import Derived.Test.YtbdklgibiadikaaDoorProg
import Derived.Test.YtbdklgibiadikaaDoorWWords
import Derived.Test.YtbdklgibiadikaaDoorWLast
import Derived.Test.YtbdklgibiadikaaDoorMem
import Derived.Laws.RangeAny
import Derived.Test.YtbdklgibiadikaaDoorShelf
import Derived.Shelf.Strings.SplitCore
import Derived.Shelf.Strings.Split
set_option linter.unusedVariables false
set_option linter.unusedSimpArgs false
namespace Go.Proofs.YtbdklgibiadikaaDoor.Ext
open Go.RowKit Go.Proofs.YtbdklgibiadikaaDoorW.PrintWords Go.Proofs.YtbdklgibiadikaaDoorW.PrintLast

/-- A string's byte, as a number. -/
def bn (s : ByteArray) (i : Nat) : Nat := if h : i < s.size then (s[i]'h).toNat else 0
theorem bn_at (s : ByteArray) (i : Nat) (h : i < s.size) : (s[i]'h).toNat = bn s i := by simp [bn, h]

/-- The digits of a text from a place on; none if one is none. -/
def parseN : Nat → ByteArray → Nat → Nat → Option Nat
  | 0, _, _, n => some n
  | f + 1, s, i, n => if i < s.size then (if bn s i < 48 ∨ 57 < bn s i ∨ (0 < i ∧ n = 0) ∨ 13 < i then none else parseN f s (i + 1) (10 * n + (bn s i - 48))) else some n
def tickParse (s : ByteArray) : Int × Int :=
  match parseN s.size s 0 0 with
  | none => (0, 10)
  | some n => if s.size = 0 ∨ 1099511627776 < n then (0, 10) else (n, 0)
def tick_Parse.f (a0 : ByteArray) : Option (Int × Int) := some (tickParse a0)

theorem parseN_le (f : Nat) : ∀ (s : ByteArray) (i n m : Nat), n < 10 ^ i → i ≤ 14 → parseN f s i n = some m → m < 10 ^ 14 := by
  induction f with
  | zero =>
    intro s i n m h hi he
    simp only [parseN, Option.some.injEq] at he
    subst he
    exact Nat.lt_of_lt_of_le h (Nat.pow_le_pow_right (by omega) hi)
  | succ f ih =>
    intro s i n m h hi he
    unfold parseN at he
    split at he
    · split at he
      · cases he
      · rename_i hc
        refine ih s (i + 1) _ m ?_ (by omega) he
        rw [Nat.pow_succ]
        have : bn s i - 48 ≤ 9 := by omega
        omega
    · simp only [Option.some.injEq] at he
      subst he
      exact Nat.lt_of_lt_of_le h (Nat.pow_le_pow_right (by omega) hi)

theorem toList_len (a : ByteArray) : a.toList.length = a.size := by
  rw [ByteArray.toList_eq]
  cases a
  rfl
theorem toList_isEmpty (a : ByteArray) : a.toList.isEmpty = decide (a.size = 0) := by
  rw [← toList_len]
  cases a.toList <;> simp

/-- What the loop of Parse knows. -/
def ParseR (s : ByteArray) (w : World) (n : Value) (wr : World) : Prop :=
  ∃ (k m : Nat), k ≤ s.size ∧ wr = w.iter s k ∧ n = .int .i64 m ∧ m < 10 ^ k ∧ k ≤ 14 ∧ parseN (s.size - k) s k m = parseN s.size s 0 0

theorem right_any (at_ : Int) (w : World) :
    Calls Tryd.prog 40 #[.int .i64 at_] w fun e w' => e = .returned (.bool (decide (0 ≤ at_) && decide (at_ ≤ 1099511627776))) ∧ w = w' := by
  by_cases h : 0 ≤ at_
  all_goals
    go_enter Tryd.func40, Tryd.ntmps40
    go_wp2
    go_ret
    exact ⟨by first | (simp [h]; done) | (simp; omega), rfl⟩

set_option maxRecDepth 100000 in
theorem tick_Parse.calls (a0 : ByteArray) (r1 r2 : Int) (w : World) (h : tick_Parse.f a0 = some (r1, r2)) :
    Calls Tryd.prog 34 #[.string a0] w fun e w' => e = .returned (.tuple #[.int .i64 r1, .int .i64 r2]) ∧ Below w.heap.size w w' := by
  have hbi : ∀ p, Below w.heap.size w (w.iter a0 p) := fun p => (Below.refl _ w).alloc (Nat.le_refl _) _
  have HBI := Lib.hid hbi
  have HF := Lib.hid (Option.some.inj h)
  clear h hbi
  go_enter Tryd.func34, Tryd.ntmps34
  go_wp2_with fail
  go_loopw [4] (fun n wr => ParseR a0 w n wr) (fun _ wr => a0.size - wr.iterPos w.heap.size)
  case atStart => exact ⟨0, 0, Nat.zero_le _, rfl, rfl, by simp, by omega, rfl⟩
  case round =>
    obtain ⟨k, m, hk, rfl, rfl, hm, hk14, hp⟩ := hrel
    have HP := Lib.hid hp
    have hm14 : m < 100000000000000 := Nat.lt_of_lt_of_le hm (by have := Nat.pow_le_pow_right (show 0 < 10 by omega) hk14; simpa using this)
    have HM := Lib.hid hm
    clear hp hm
    by_cases hkl : k < a0.size
    · have hnx : ∀ ty, (Instr.next (.pointer (some ⟨w.heap.size, 0, none⟩)) true ty).run Tryd.prog (w.iter a0 k) = _ := fun ty => run_next_any w a0 k ty hkl
      by_cases hbad : bn a0 k < 48 ∨ 57 < bn a0 k ∨ (0 < k ∧ m = 0) ∨ 13 < k
      · have hres : tickParse a0 = (0, 10) := by
          have hpk := HP.out
          obtain ⟨f, hf⟩ : ∃ f, a0.size - k = f + 1 := ⟨a0.size - k - 1, by omega⟩
          rw [hf, parseN, if_pos hkl, if_pos hbad] at hpk
          unfold tickParse
          rw [← hpk]
        have hr := HF.out
        rw [hres] at hr
        obtain ⟨rfl, rfl⟩ := Prod.mk.inj hr
        clear hr hres
        obtain ⟨r, hr⟩ : ∃ r, (Utf8.decode a0 k).1 = r := ⟨_, rfl⟩
        have hrb : r < 48 ∨ 57 < r ∨ (48 ≤ r ∧ r ≤ 57 ∧ ((0 < k ∧ m = 0) ∨ 13 < k)) := by
          by_cases hlt : (a0[k]'hkl).toNat < 128
          · have := decode_ascii a0 k hkl hlt
            rw [this] at hr
            simp only at hr
            rw [bn_at] at hr
            omega
          · have := (decode_high a0 k hkl (by omega)).1
            omega
        have hr31 : r ≤ 2147483647 := by have := decode_le a0 k; omega
        rw [hr] at hnx
        have HR := Lib.hid hr
        clear hr hbad
        rcases hrb with h1 | h1 | ⟨h1, h2, h3⟩
        · have q1 : (r : Int) < 48 := by omega
          clear h1
          go_wp2_with fail
          go_ret2
          exact ⟨rfl, HBI.out _⟩
        · have q1 : ¬ (r : Int) < 48 := by omega
          have q2 : (57 : Int) < (r : Int) := by omega
          clear h1
          go_wp2_with fail
          go_ret2
          exact ⟨rfl, HBI.out _⟩
        · have q1 : ¬ (r : Int) < 48 := by omega
          have q2 : ¬ (57 : Int) < (r : Int) := by omega
          clear h1 h2
          by_cases hk0 : 0 < k
          · by_cases hm0 : m = 0
            · have q3 : (0 : Int) < (k : Int) := by omega
              have q4 : ((m : Int) == 0) = true := by simp [hm0]
              have HM0 := Lib.hid hm0
              clear h3 hm0 hk0
              go_wp2_with fail
              go_ret2
              exact ⟨rfl, HBI.out _⟩
            · have q3 : (0 : Int) < (k : Int) := by omega
              have q4 : ((m : Int) == 0) = false := by simp; omega
              have q5 : (13 : Int) < (k : Int) := by omega
              clear h3 hm0 hk0
              go_wp2_with fail
              go_ret2
              exact ⟨rfl, HBI.out _⟩
          · omega
      · have hgood : 48 ≤ bn a0 k ∧ bn a0 k ≤ 57 ∧ (0 < k → m ≠ 0) ∧ k ≤ 13 := by omega
        obtain ⟨r, hr⟩ : ∃ r, bn a0 k = r := ⟨_, rfl⟩
        have hdec : Utf8.decode a0 k = (r, 1) := by
          rw [decode_ascii a0 k hkl (by rw [bn_at]; omega), bn_at, hr]
        rw [hdec] at hnx
        simp only at hnx
        rw [hr] at hgood
        obtain ⟨g1, g2, g3, g4⟩ := hgood
        have hstep : parseN (a0.size - (k + 1)) a0 (k + 1) (10 * m + (r - 48)) = parseN a0.size a0 0 0 := by
          have hpk := HP.out
          rw [show a0.size - k = (a0.size - (k + 1)) + 1 by omega, parseN, if_pos hkl, if_neg hbad, hr] at hpk
          exact hpk
        have HSTEP := Lib.hid hstep
        have HRR := Lib.hid hr
        clear hstep hbad hdec hr
        have q1 : ¬ (r : Int) < 48 := by omega
        have q2 : ¬ (57 : Int) < (r : Int) := by omega
        have q5 : ¬ (13 : Int) < (k : Int) := by omega
        by_cases hk0 : 0 < k
        · have q3 : (0 : Int) < (k : Int) := by omega
          have q4 : ((m : Int) == 0) = false := by have := g3 hk0; simp; omega
          clear g3
          go_wp2_with fail
          go_roundw
          all_goals go_goals
          · exact ⟨k + 1, 10 * m + (r - 48), by omega, rfl, by congr 1; omega, by have := HM.out; rw [Nat.pow_succ]; omega, by omega, HSTEP.out⟩
          · simp only [World.iterPos_iter]; omega
        · have q3 : ¬ (0 : Int) < (k : Int) := by omega
          clear g3
          go_wp2_with fail
          go_roundw
          all_goals go_goals
          · exact ⟨k + 1, 10 * m + (r - 48), by omega, rfl, by congr 1; omega, by have := HM.out; rw [Nat.pow_succ]; omega, by omega, HSTEP.out⟩
          · simp only [World.iterPos_iter]; omega
    · have hk' : k = a0.size := by omega
      subst hk'
      have hne : ∀ ty, (Instr.next (.pointer (some ⟨w.heap.size, 0, none⟩)) true ty).run Tryd.prog (w.iter a0 a0.size) = _ := fun ty => run_next_end w a0 a0.size ty (Nat.lt_irrefl _)
      have hres : tickParse a0 = if a0.size = 0 ∨ 1099511627776 < m then (0, 10) else ((m : Int), 0) := by
        have := HP.out
        rw [show a0.size - a0.size = 0 by omega, parseN] at this
        unfold tickParse
        rw [← this]
      have HRES := Lib.hid hres
      clear hres
      by_cases h0 : a0.size = 0
      · have hr := HRES.out
        rw [if_pos (.inl h0), HF.out] at hr
        obtain ⟨rfl, rfl⟩ := Prod.mk.inj hr
        have hs0 : a0.toList = [] := List.eq_nil_of_length_eq_zero (by rw [toList_len]; exact h0)
        clear hr h0
        go_wp2_with fail
        go_ret2
        exact ⟨rfl, HBI.out _⟩
      · have hs0 : a0.toList.isEmpty = false := by rw [toList_isEmpty]; simp [h0]
        have HH0 := Lib.hid h0
        clear h0
        by_cases hbig : 1099511627776 < m
        · have hr := HRES.out
          rw [if_pos (.inr hbig), HF.out] at hr
          obtain ⟨rfl, rfl⟩ := Prod.mk.inj hr
          have hb : (decide ((0 : Int) ≤ (m : Int)) && decide ((m : Int) ≤ 1099511627776)) = false := by simp; omega
          have HRA := Lib.hid (fun w => right_any (m : Int) w)
          rw [hb] at HRA
          clear hr hb hbig
          go_wp2_with (first | (refine (HRA.out _).mono ?_; rintro e w1 ⟨rfl, rfl⟩) | fail)
          go_ret2
          exact ⟨rfl, HBI.out _⟩
        · have hr := HRES.out
          rw [if_neg (by have := HH0.out; omega), HF.out] at hr
          obtain ⟨rfl, rfl⟩ := Prod.mk.inj hr
          have hb : (decide ((0 : Int) ≤ (m : Int)) && decide ((m : Int) ≤ 1099511627776)) = true := by simp; omega
          have HRA := Lib.hid (fun w => right_any (m : Int) w)
          rw [hb] at HRA
          clear hr hb hbig
          go_wp2_with (first | (refine (HRA.out _).mono ?_; rintro e w1 ⟨rfl, rfl⟩) | fail)
          go_ret2
          exact ⟨rfl, HBI.out _⟩
end Go.Proofs.YtbdklgibiadikaaDoor.Ext

/- The contract of tick.Text. -/
set_option linter.unusedVariables false
set_option linter.unusedSimpArgs false
namespace Go.Proofs.YtbdklgibiadikaaDoor.Ext
open Go.RowKit Go.Proofs.YtbdklgibiadikaaDoorW.PrintWords Go.Proofs.YtbdklgibiadikaaDoorW.PrintLast

/-- A digit. -/
def dg (n : Nat) : ByteArray := ⟨#[UInt8.ofNat (48 + n)]⟩
/-- A number's digits. -/
def textN : Nat → Nat → ByteArray
  | 0, n => dg n
  | f + 1, n => if n < 10 then dg n else textN f (n / 10) ++ dg (n % 10)
def nearN (a : Int) : Nat := (min (max a 0) 1099511627776).toNat
def tickText (a : Int) : ByteArray := textN 14 (nearN a)
def tick_Text.f (a0 : Int) : Option ByteArray := some (tickText a0)

theorem textN_small (f n : Nat) (h : n < 10) : textN f n = dg n := by
  cases f with
  | zero => rfl
  | succ f => simp [textN, h]

theorem textN_size (f : Nat) : ∀ n, (textN f n).size ≤ f + 1 := by
  induction f with
  | zero => intro n; exact Nat.le_refl _
  | succ f ih =>
    intro n
    unfold textN
    split
    · simp [dg, ByteArray.size]
    · rw [ByteArray.size_append]
      have := ih (n / 10)
      have : (dg (n % 10)).size = 1 := rfl
      omega

theorem near_any (at_ : Int) (w : World) :
    Calls Tryd.prog 42 #[.int .i64 at_] w fun e w' => e = .returned (.int .i64 (nearN at_ : Nat)) ∧ w = w' := by
  have h1 : ((nearN at_ : Nat) : Int) = if at_ < 0 then 0 else if 1099511627776 < at_ then 1099511627776 else at_ := by
    unfold nearN
    omega
  rw [h1]
  clear h1
  go_enter Tryd.func42, Tryd.ntmps42
  go_wp2
  all_goals go_ret
  all_goals first
    | exact ⟨rfl, rfl⟩
    | (refine ⟨congrArg (fun n => Ending.returned (.int .i64 n)) ?_, rfl⟩; omega)

theorem run_digit (n : Nat) (h : n < 10) (w : World) : (convert 21 9 (.int .i32 (48 + (n : Int)))).run Tryd.prog w = .ok (.string (dg n)) w := by
  have : n = 0 ∨ n = 1 ∨ n = 2 ∨ n = 3 ∨ n = 4 ∨ n = 5 ∨ n = 6 ∨ n = 7 ∨ n = 8 ∨ n = 9 := by omega
  rcases this with rfl | rfl | rfl | rfl | rfl | rfl | rfl | rfl | rfl | rfl <;> rfl

theorem text_small (a : Int) (w : World) (hn10 : nearN a < 10) :
    Calls Tryd.prog 29 #[.int .i64 a] w fun e w' => e = .returned (.string (dg (nearN a))) ∧ Below w.heap.size w w' := by
  have HN := near_any a
  obtain ⟨n, hn⟩ : ∃ n, nearN a = n := ⟨_, rfl⟩
  rw [hn] at HN hn10
  rw [hn]
  have hlt : (n : Int) < 10 := by omega
  have q1 := run_digit n hn10
  clear hn
  go_enter Tryd.func29, Tryd.ntmps29
  go_wp2_with (first | (refine (HN _).mono ?_; rintro e w1 ⟨rfl, rfl⟩) | fail)
  go_ret
  exact ⟨rfl, Below.refl _ _⟩

theorem text_all (f : Nat) : ∀ (a : Int) (w : World), f ≤ 14 → nearN a < 10 ^ (f + 1) →
    Calls Tryd.prog 29 #[.int .i64 a] w fun e w' => e = .returned (.string (textN f (nearN a))) ∧ Below w.heap.size w w' := by
  induction f with
  | zero =>
    intro a w hf14 hf
    exact text_small a w (by simpa using hf)
  | succ f ih =>
    intro a w hf14 hf
    by_cases h10 : nearN a < 10
    · rw [textN_small _ _ h10]; exact text_small a w h10
    have HN := near_any a
    have hb : nearN a ≤ 1099511627776 := by unfold nearN; omega
    obtain ⟨n, hn⟩ : ∃ n, nearN a = n := ⟨_, rfl⟩
    rw [hn] at HN hf h10 hb
    rw [hn]
    have e1 : (n : Int) / 10 = ((n / 10 : Nat) : Int) := by omega
    have n1 : nearN ((n / 10 : Nat) : Int) = n / 10 := by unfold nearN; omega
    have n2 : nearN ((n % 10 : Nat) : Int) = n % 10 := by unfold nearN; omega
    have IH1 := ih ((n / 10 : Nat) : Int)
    have IH2 := text_small ((n % 10 : Nat) : Int)
    rw [n1] at IH1
    rw [n2] at IH2
    have hp1 : n / 10 < 10 ^ (f + 1) := by rw [Nat.pow_succ] at hf; omega
    have C1 : ∀ w, Calls Tryd.prog 29 #[.int .i64 ((n : Int) / 10)] w fun e w' => e = .returned (.string (textN f (n / 10))) ∧ Below w.heap.size w w' := by
      intro w
      have : ((n : Int) / 10) = ((n / 10 : Nat) : Int) := by omega
      rw [this]
      exact IH1 w (by omega) hp1
    have C2 : ∀ w, Calls Tryd.prog 29 #[.int .i64 ((n : Int) % 10)] w fun e w' => e = .returned (.string (dg (n % 10))) ∧ Below w.heap.size w w' := by
      intro w
      have : ((n : Int) % 10) = ((n % 10 : Nat) : Int) := by omega
      rw [this]
      exact IH2 w (Nat.mod_lt _ (by omega))
    have hr : textN (f + 1) n = textN f (n / 10) ++ dg (n % 10) := by simp [textN, h10]
    rw [hr]
    have hlt : ¬ (n : Int) < 10 := by omega
    have hsz : ¬ 9223372036854775807 < (textN f (n / 10)).size + (dg (n % 10)).size := by
      have := textN_size f (n / 10)
      have : (dg (n % 10)).size = 1 := rfl
      omega
    clear hn IH1 IH2 hp1 n1 n2 ih hf hr e1
    go_enter Tryd.func29, Tryd.ntmps29
    go_wp2_with (first | (with_reducible refine (HN _).mono ?_; rintro e w1 ⟨rfl, rfl⟩) | (with_reducible refine (C1 _).mono ?_; rintro e w1 ⟨rfl, hb1⟩) | (with_reducible refine (C2 _).mono ?_; rintro e w2 ⟨rfl, hb2⟩) | fail)
    go_ret
    exact ⟨rfl, hb1.trans (hb2.mono hb1.size)⟩

theorem tick_Text.calls (a0 : Int) (r : ByteArray) (w : World) (h : tick_Text.f a0 = some r) :
    Calls Tryd.prog 29 #[.int .i64 a0] w fun e w' => e = .returned (.string r) ∧ Below w.heap.size w w' := by
  cases Option.some.inj h
  exact text_all 14 a0 w (by omega) (Nat.lt_of_le_of_lt (show nearN a0 ≤ 1099511627776 by unfold nearN; omega) (by decide))
end Go.Proofs.YtbdklgibiadikaaDoor.Ext

/- The contracts of strings.Split at a blank, and of strings.Join, as print's. -/
set_option linter.unusedVariables false
set_option linter.unusedSimpArgs false
namespace Go.Proofs.YtbdklgibiadikaaDoor.Ext
open Go.RowKit Go.Shelf Go.Proofs.YtbdklgibiadikaaDoorW.PrintWords Go.Proofs.YtbdklgibiadikaaDoorW.PrintLast

def blank : ByteArray := ⟨#[32]⟩
/-- The parts between blanks. -/
def parts (s : ByteArray) : List ByteArray := Lib.splitB blank 0 (Lib.countB s blank) s
def strings_Split.f (a0 a1 : ByteArray) : Option (List ByteArray) := if a1 = ⟨#[32]⟩ ∧ a0.size < 4294967281 then some (parts a0) else none

theorem reps_strings (w : World) (base : Nat) (ok : Nat → Prop) (xs : List ByteArray) : Reps (Kd.string.M w base ok) 1 xs (xs.map Value.string) := by
  refine ⟨by simp, fun j p hj => ?_⟩
  show _ = [Value.string p]
  have hl : j < xs.length := by
    rcases Nat.lt_or_ge j xs.length with h | h
    · exact h
    · rw [List.getElem?_eq_none h] at hj; cases hj
  have : (xs.map Value.string)[j]? = some (.string p) := by rw [List.getElem?_map, hj]; rfl
  rw [Nat.mul_one]
  have hd : (xs.map Value.string).drop j = Value.string p :: (xs.map Value.string).drop (j + 1) := by
    rw [List.drop_eq_getElem_cons (by simpa using hl)]
    congr 1
    rw [List.getElem?_eq_getElem (by simpa using hl)] at this
    exact Option.some.inj this
  rw [hd]
  rfl

/-- A new row of strings. -/
theorem row_new (W : World) (xs : List ByteArray) (hm : xs.length ≤ 9223372036854775807) :
    Kd.R Kd.string 9 (W.alloc (.cells ((xs.map Value.string).toArray) 9)) W.heap.size (fun _ => True) (.slice (some ⟨W.heap.size, 0, none⟩) xs.length xs.length) xs :=
  ⟨fun _ _ => trivial, OwnRow.lit W W.heap.size (reps_strings _ _ _ xs) (Nat.le_refl _) hm⟩

theorem split_walk (s : ByteArray) (w : World) (hs : s.size < 4294967281) :
    Calls Tryd.prog 32 #[.string s, .string ⟨#[32]⟩] w fun e w' =>
      e = .returned (.slice (some ⟨w.heap.size, 0, none⟩) (parts s).length (parts s).length) ∧ w' = w.alloc (.cells ((parts s).map Value.string).toArray 9) := by
  have h1 : 1 ≤ blank.size := by decide
  have hle := Lib.countB_le blank h1 s.size s (Nat.le_refl _)
  have hlen := Lib.splitB_all blank h1 0 _ s rfl
  have c := Any.strings_genSplit_core Tryd.lays221 (by kernel_rfl) s blank 0 (-1) (Lib.countB s blank + 1) w hs h1 (Nat.zero_le _)
    (fun x c hx => ((Tryd.strings_Index_one x 32 (w.alloc (.cells c 9))).mono fun e w' ⟨he, hw⟩ => ⟨by rw [he]; show _ = Ending.returned (Value.int .i64 (Lib.index x.data.toList [32])); rw [Lib.index_one], hw⟩))
    ((Tryd.strings_Count_one s 32 w).mono fun e w' ⟨he, hw⟩ => ⟨by rw [he]; show _ = Ending.returned (Value.int .i64 ((Lib.count s.data.toList [32] : Nat) : Int)); rw [Lib.count_one]; rfl, hw⟩)
    (by decide) (by decide) (by rw [if_pos (by decide)]; omega)
  rw [Nat.add_sub_cancel] at c
  have e2 : Lib.cellsOf (Lib.splitB blank 0 (Lib.countB s blank) s) (Lib.countB s blank + 1) = ((Lib.splitB blank 0 (Lib.countB s blank) s).map Value.string).toArray := by rw [← hlen]; exact Lib.cellsOf_full _
  rw [e2] at c
  have hp : (parts s).length = Lib.countB s blank + 1 := hlen
  have C : Calls Tryd.prog 47 #[.string s, .string ⟨#[32]⟩, .int .i64 0, .int .i64 (-1)] w fun e w' => e = .returned (.slice (some ⟨w.heap.size, 0, none⟩) (parts s).length (parts s).length) ∧ w' = w.alloc (.cells ((parts s).map Value.string).toArray 9) := by
    refine Calls.mono c fun e w' ⟨he, hw⟩ => ⟨?_, hw⟩
    rw [he, ← hp]
    rfl
  clear c e2 hlen hle hp h1
  go_enter Tryd.func32, Tryd.ntmps32
  go_wp2_with (go_at_call 47; refine C.mono ?_; rintro e w' ⟨rfl, hw⟩; rw [hw])
  go_ret
  exact ⟨rfl, rfl⟩

theorem strings_Split.calls (a0 a1 : ByteArray) (r : List ByteArray) (w : World) (h : strings_Split.f a0 a1 = some r) :
    Calls Tryd.prog 32 #[.string a0, .string a1] w fun e w' => ∃ v0_ : Value, e = .returned (v0_) ∧ Kd.R Kd.string 9 w' w.heap.size (fun _ => True) v0_ r ∧ Below w.heap.size w w' := by
  unfold strings_Split.f at h
  split at h
  · rename_i hc
    obtain ⟨rfl, hs⟩ := hc
    cases Option.some.inj h
    refine (split_walk a0 w hs).mono ?_
    rintro e w' ⟨rfl, rfl⟩
    have hb : (parts a0).length ≤ 9223372036854775807 := by
      have h1 : 1 ≤ blank.size := by decide
      have hle := Lib.countB_le blank h1 a0.size a0 (Nat.le_refl _)
      have hlen : (parts a0).length = Lib.countB a0 blank + 1 := Lib.splitB_all blank h1 0 _ a0 rfl
      omega
    exact ⟨_, rfl, row_new w _ hb, (Below.refl _ w).alloc (Nat.le_refl _) _⟩
  · cases h

def joined (l : List ByteArray) (sep : ByteArray) : ByteArray := ⟨(Lib.join (l.map (·.data.toList)) sep.data.toList).toArray⟩
def strings_Join.f (l0 : List ByteArray) (a1 : ByteArray) : Option ByteArray := if l0.length ≤ 140737488355328 ∧ (Lib.join (l0.map (·.data.toList)) a1.data.toList).length ≤ 140737488355328 then some (joined l0 a1) else none

theorem strings_Join.calls (A0 : Option Addr) (c0 : Nat) (l0 : List ByteArray) (a1 : ByteArray) (r : ByteArray) (w : World) (hr0 : Kd.C Kd.string w A0 l0.length l0) (hc0 : l0.length ≤ c0) (h : strings_Join.f l0 a1 = some r) :
    Calls Tryd.prog 30 #[.slice A0 l0.length c0, .string a1] w fun e w' => e = .returned (.string r) ∧ Below w.heap.size w w' := by
  unfold strings_Join.f at h
  split at h
  · rename_i hc
    obtain ⟨h1, h2⟩ := hc
    cases Option.some.inj h
    by_cases h0 : l0 = []
    · subst h0
      refine (Tryd.strings_Join_none A0 c0 a1 w).mono ?_
      rintro e w' ⟨rfl, rfl⟩
      exact ⟨rfl, Below.refl _ _⟩
    · have hl : 0 < l0.length := List.length_pos_iff.2 h0
      obtain ⟨ad, rfl, hcell⟩ := hr0.2.2 hl
      have hcells : ∀ (j : Nat) x, l0[j]? = some x → w.cell? (ad.add j) = some (.string x) := by
        intro j x hj
        obtain ⟨c, _, hK, hu⟩ := hcell j x hj
        have hK' : c = [Value.string x] := hK
        subst hK'
        have := hu 0 _ rfl
        have e : j * Kd.string.sz + 0 = j := by show j * 1 + 0 = j; omega
        rwa [e] at this
      have hz := hcells 0 _ (List.getElem?_eq_getElem hl)
      have hsp : ad.spot = none := by
        have : ad.add 0 = ad := by simp [Addr.add]
        rw [this] at hz
        unfold World.cell? at hz
        split at hz
        · split at hz
          · cases hz
          · rename_i h; simpa using h
        · cases hz
      have hbk : ad.block < w.heap.size := by
        have := World.block_lt_of_cell? _ _ hz
        simpa [Addr.add] using this
      have hadd : ∀ j, ad.add j = ⟨ad.block, ad.off + j, none⟩ := by
        intro j
        unfold Addr.add
        split
        · rename_i h; subst h; cases ad; simp at hsp; simp [hsp]
        · rfl
      have e : (some ad : Option Addr) = some ⟨ad.block, ad.off, none⟩ := by cases ad; simp at hsp; simp [hsp]
      rw [e]
      exact Tryd.strings_Join ad.block ad.off c0 l0 a1 w (fun j x hj => by rw [← hadd]; exact hcells j x hj) hbk h1 hc0 h2
  · cases h
end Go.Proofs.YtbdklgibiadikaaDoor.Ext

/- The contract of toxic.Name. -/
set_option linter.unusedVariables false
set_option linter.unusedSimpArgs false
namespace Go.Proofs.YtbdklgibiadikaaDoor.Ext
open Go.RowKit Go.Proofs.YtbdklgibiadikaaDoorW.PrintWords Go.Proofs.YtbdklgibiadikaaDoorW.PrintLast

/-- A sign of a name. -/
def okN (r : Nat) : Bool := (97 ≤ r && r ≤ 122) || (48 ≤ r && r ≤ 57) || r == 95 || r == 45
/-- Are all signs from a place on those of a name? -/
def allN : Nat → ByteArray → Nat → Bool
  | 0, _, _ => true
  | f + 1, s, i => okN (bn s i) && allN f s (i + 1)
def nameOk (s : ByteArray) : Bool := allN s.size s 0 && decide (1 ≤ s.size) && decide (s.size ≤ 16)
def toxic_Name.f (a0 : ByteArray) : Option Bool := some (nameOk a0)

def NameR (s : ByteArray) (w : World) (wr : World) : Prop :=
  ∃ (k : Nat), k ≤ s.size ∧ wr = w.iter s k ∧ allN (s.size - k) s k = allN s.size s 0

theorem okN_iff (r : Nat) : okN r = true ↔ (97 ≤ r ∧ r ≤ 122) ∨ (48 ≤ r ∧ r ≤ 57) ∨ r = 95 ∨ r = 45 := by
  simp [okN, or_assoc]

set_option maxRecDepth 100000 in
theorem toxic_Name.calls (a0 : ByteArray) (r : Bool) (w : World) (h : toxic_Name.f a0 = some r) :
    Calls Tryd.prog 15 #[.string a0] w fun e w' => e = .returned (.bool r) ∧ Below w.heap.size w w' := by
  have hbi : ∀ p, Below w.heap.size w (w.iter a0 p) := fun p => (Below.refl _ w).alloc (Nat.le_refl _) _
  have HBI := Lib.hid hbi
  have HF := Lib.hid (Option.some.inj h)
  clear h hbi
  go_enter Tryd.func15, Tryd.ntmps15
  go_wp2_with fail
  go_loopw [] (fun wr => NameR a0 w wr) (fun wr => a0.size - wr.iterPos w.heap.size)
  case atStart => exact ⟨0, Nat.zero_le _, rfl, rfl⟩
  case round =>
    obtain ⟨k, hk, rfl, hp⟩ := hrel
    have HP := Lib.hid hp
    clear hp
    by_cases hkl : k < a0.size
    · have hnx : ∀ ty, (Instr.next (.pointer (some ⟨w.heap.size, 0, none⟩)) true ty).run Tryd.prog (w.iter a0 k) = _ := fun ty => run_next_any w a0 k ty hkl
      by_cases hbad : okN (bn a0 k) = false
      · have hres : nameOk a0 = false := by
          have hpk := HP.out
          obtain ⟨f, hf⟩ : ∃ f, a0.size - k = f + 1 := ⟨a0.size - k - 1, by omega⟩
          rw [hf, allN, hbad, Bool.false_and] at hpk
          unfold nameOk
          rw [← hpk]
          rfl
        have hr := HF.out
        rw [hres] at hr
        subst hr
        clear hres
        obtain ⟨r, hr⟩ : ∃ r, (Utf8.decode a0 k).1 = r := ⟨_, rfl⟩
        have hrb : okN r = false := by
          by_cases hlt : (a0[k]'hkl).toNat < 128
          · have := decode_ascii a0 k hkl hlt
            rw [this] at hr
            simp only at hr
            rw [bn_at] at hr
            rw [← hr]; exact hbad
          · have := (decode_high a0 k hkl (by omega)).1
            rw [Bool.eq_false_iff, ne_eq, okN_iff]
            omega
        have hr31 : r ≤ 2147483647 := by have := decode_le a0 k; omega
        rw [hr] at hnx
        have hcase : (r < 48 ∧ r ≠ 45) ∨ (57 < r ∧ r < 97 ∧ r ≠ 95) ∨ 122 < r := by
          rw [Bool.eq_false_iff, ne_eq, okN_iff] at hrb
          omega
        clear hr hbad hrb
        rcases hcase with ⟨h1, h2⟩ | ⟨h1, h2, h3⟩ | h1
        · have q1 : (r : Int) < 97 := by omega
          have q2 : (r : Int) < 48 := by omega
          have q3 : ((r : Int) != 45) = true := by simp; omega
          have q4 : ((r : Int) != 95) = true := by simp; omega
          clear h1 h2
          go_wp2_with fail
          all_goals go_ret
          all_goals exact ⟨rfl, HBI.out _⟩
        · have q1 : (r : Int) < 97 := by omega
          have q2 : ¬ (r : Int) < 48 := by omega
          have q5 : (57 : Int) < (r : Int) := by omega
          have q3 : ((r : Int) != 45) = true := by simp; omega
          have q4 : ((r : Int) != 95) = true := by simp; omega
          clear h1 h2 h3
          go_wp2_with fail
          all_goals go_ret
          all_goals exact ⟨rfl, HBI.out _⟩
        · have q1 : ¬ (r : Int) < 97 := by omega
          have q6 : (122 : Int) < (r : Int) := by omega
          have q2 : ¬ (r : Int) < 48 := by omega
          have q5 : (57 : Int) < (r : Int) := by omega
          have q3 : ((r : Int) != 45) = true := by simp; omega
          have q4 : ((r : Int) != 95) = true := by simp; omega
          clear h1
          go_wp2_with fail
          all_goals go_ret
          all_goals exact ⟨rfl, HBI.out _⟩
      · have hgood : okN (bn a0 k) = true := by simpa using hbad
        obtain ⟨r, hr⟩ : ∃ r, bn a0 k = r := ⟨_, rfl⟩
        have hstep : allN (a0.size - (k + 1)) a0 (k + 1) = allN a0.size a0 0 := by
          have hpk := HP.out
          rw [show a0.size - k = (a0.size - (k + 1)) + 1 by omega, allN, hgood, Bool.true_and] at hpk
          exact hpk
        rw [hr] at hgood
        have hg := (okN_iff r).1 hgood
        have hdec : Utf8.decode a0 k = (r, 1) := by
          rw [decode_ascii a0 k hkl (by rw [bn_at]; omega), bn_at, hr]
        rw [hdec] at hnx
        simp only at hnx
        have HSTEP := Lib.hid hstep
        have HRR := Lib.hid hr
        clear hstep hbad hdec hr hgood
        rcases hg with ⟨h1, h2⟩ | ⟨h1, h2⟩ | rfl | rfl
        · have q1 : ¬ (r : Int) < 97 := by omega
          have q6 : ¬ (122 : Int) < (r : Int) := by omega
          have q2 : ¬ (r : Int) < 48 := by omega
          have q5 : (57 : Int) < (r : Int) := by omega
          go_wp2_with fail
          go_roundw
          all_goals go_goals
          · exact ⟨k + 1, by omega, rfl, HSTEP.out⟩
          · simp only [World.iterPos_iter]; omega
        · have q1 : (r : Int) < 97 := by omega
          have q2 : ¬ (r : Int) < 48 := by omega
          have q5 : ¬ (57 : Int) < (r : Int) := by omega
          go_wp2_with fail
          go_roundw
          all_goals go_goals
          · exact ⟨k + 1, by omega, rfl, HSTEP.out⟩
          · simp only [World.iterPos_iter]; omega
        · go_wp2_with fail
          go_roundw
          all_goals go_goals
          · exact ⟨k + 1, by omega, rfl, HSTEP.out⟩
          · simp only [World.iterPos_iter]; omega
        · go_wp2_with fail
          go_roundw
          all_goals go_goals
          · exact ⟨k + 1, by omega, rfl, HSTEP.out⟩
          · simp only [World.iterPos_iter]; omega
    · have hk' : k = a0.size := by omega
      subst hk'
      have hne : ∀ ty, (Instr.next (.pointer (some ⟨w.heap.size, 0, none⟩)) true ty).run Tryd.prog (w.iter a0 a0.size) = _ := fun ty => run_next_end w a0 a0.size ty (Nat.lt_irrefl _)
      have hres : nameOk a0 = (decide (1 ≤ a0.size) && decide (a0.size ≤ 16)) := by
        have := HP.out
        rw [show a0.size - a0.size = 0 by omega, allN] at this
        unfold nameOk
        rw [← this, Bool.true_and]
      have hr := HF.out
      rw [hres] at hr
      subst hr
      clear hres
      by_cases h1 : 1 ≤ a0.size
      · have q1 : (1 : Int) ≤ (a0.size : Int) := by omega
        by_cases h2 : a0.size ≤ 16
        · have q2 : (a0.size : Int) ≤ 16 := by omega
          go_wp2_with fail
          go_ret
          exact ⟨by simp [h1, h2], HBI.out _⟩
        · have q2 : ¬ (a0.size : Int) ≤ 16 := by omega
          go_wp2_with fail
          go_ret
          exact ⟨by simp [h1, h2], HBI.out _⟩
      · have q1 : ¬ (1 : Int) ≤ (a0.size : Int) := by omega
        go_wp2_with fail
        go_ret
        exact ⟨by simp [h1], HBI.out _⟩
end Go.Proofs.YtbdklgibiadikaaDoor.Ext
