/- When, Move and Cancel, each in one contract; what they do to the ticks. -/
import Derived.Test.YtcnifhkgibopbaaNextW
import Derived.Test.YtcnifhkgibopbaaAlarmP
set_option linter.unusedVariables false
set_option linter.unusedSimpArgs false
namespace Go.Proofs.Ytcnifhkgibopbaa
open Go.RowKit Go.MapKept Go.ChangeMaps

/-- An alarm's tick. -/
def tickOf (L : List D2) (id : Int) : Option Int := (findL L id).map fun k => (fn L k).1
/-- Each number stands once. -/
def Uq (L : List D2) : Prop := ∀ d ∈ L, ∀ d' ∈ L, d.2 = d'.2 → d = d'
theorem Idx.uq {L : List D2} {m : List (Int × Nat)} (h : Idx L m) : Uq L := by
  intro d hd d' hd' he
  obtain ⟨i, hi⟩ := List.getElem?_of_mem hd
  obtain ⟨j, hj⟩ := List.getElem?_of_mem hd'
  have := h.uniq hi hj he
  subst this
  rw [hi] at hj
  exact Option.some.inj hj
theorem Alm.uq {w : World} {pa : Nat} {L : List D2} {last : Int} {S : Nat → Prop} (h : Alm w pa L last S) : Uq L := by
  obtain ⟨m, hx⟩ := h.idx
  exact hx.uq
theorem fn_of {L : List D2} {k : Nat} {d : D2} (h : L[k]? = some d) : fn L k = d := by unfold fn; rw [List.getD_eq_getElem?_getD, h]; rfl
theorem find_none {L : List D2} {id : Int} (h : findL L id = none) : ∀ d ∈ L, d.2 ≠ id := by
  intro d hd he
  unfold findL at h
  rw [List.findIdx?_eq_none_iff] at h
  have := h d hd
  simp [he] at this
theorem tick_iff {L : List D2} (h : Uq L) (id t : Int) : tickOf L id = some t ↔ (t, id) ∈ L := by
  unfold tickOf
  cases hf : findL L id with
  | none =>
    simp only [Option.map_none]
    constructor
    · intro h; cases h
    · intro hm; exact absurd rfl (find_none hf _ hm)
  | some k =>
    obtain ⟨d, hd, he⟩ := findL_some hf
    have hm : d ∈ L := List.mem_of_getElem? hd
    rw [Option.map_some, fn_of hd]
    constructor
    · intro h; have := Option.some.inj h; subst this; rw [← he]; exact hm
    · intro hm2
      have := h _ hm _ hm2 he
      rw [this]
theorem tick_none {L : List D2} (id : Int) : tickOf L id = none ↔ ∀ d ∈ L, d.2 ≠ id := by
  unfold tickOf
  constructor
  · intro h
    cases hf : findL L id with
    | none => exact find_none hf
    | some k => rw [hf] at h; cases h
  · intro h
    cases hf : findL L id with
    | none => rfl
    | some k =>
      obtain ⟨d, hd, he⟩ := findL_some hf
      exact absurd he (h d (List.mem_of_getElem? hd))
theorem find_isSome (L : List D2) (id : Int) : (findL L id).isSome = (tickOf L id).isSome := by
  unfold tickOf; cases findL L id <;> rfl

theorem when_any (pa : Nat) (id : Int) (L : List D2) (last : Int) (S : Nat → Prop) (w : World) (h : Alm w pa L last S) (hid : iok id) :
    Calls Try.prog 22 #[.pointer (some ⟨pa, 0, none⟩), .int .i64 id] w fun e w' => e = .returned (.tuple #[.int .i64 ((tickOf L id).getD 0), .bool (tickOf L id).isSome]) ∧ w = w' := by
  unfold tickOf
  cases hf : findL L id with
  | none => exact when_none pa id L last S w h hid hf
  | some k => exact when_some pa id L last S w h hid k hf

def movL (L : List D2) (id at_ : Int) : List D2 × Bool := match findL L id with
  | some k => if (decide (0 ≤ at_) && decide (at_ ≤ 1099511627776)) then (moveL L k at_, true) else (L, false)
  | none => (L, false)
theorem move_any (pa : Nat) (id at_ : Int) (L : List D2) (last : Int) (S : Nat → Prop) (w : World) (h : Alm w pa L last S) (hid : iok id) :
    Calls Try.prog 23 #[.pointer (some ⟨pa, 0, none⟩), .int .i64 id, .int .i64 at_] w fun e w' => e = .returned (.bool (movL L id at_).2) ∧ Alm w' pa (movL L id at_).1 last S ∧ Only S w w' := by
  unfold movL
  cases hf : findL L id with
  | none =>
    refine (move_no pa id at_ L last S w h hid (.inl hf)).mono ?_
    rintro e w' ⟨rfl, rfl⟩
    exact ⟨rfl, h, Only.refl _ _⟩
  | some k =>
    by_cases hr : (decide (0 ≤ at_) && decide (at_ ≤ 1099511627776)) = true
    · simp only [hr, if_true]
      exact move_yes pa id at_ L last S w h hid k hf hr
    · rw [Bool.not_eq_true] at hr
      simp only [hr]
      refine (move_no pa id at_ L last S w h hid (.inr hr)).mono ?_
      rintro e w' ⟨rfl, rfl⟩
      exact ⟨rfl, h, Only.refl _ _⟩
def canL (L : List D2) (id : Int) : List D2 × Bool := match findL L id with
  | some k => (dropL L k, true)
  | none => (L, false)
theorem cancel_any (pa : Nat) (id : Int) (L : List D2) (last : Int) (S : Nat → Prop) (w : World) (h : Alm w pa L last S) (hid : iok id) :
    Calls Try.prog 24 #[.pointer (some ⟨pa, 0, none⟩), .int .i64 id] w fun e w' => e = .returned (.bool (canL L id).2) ∧ Alm w' pa (canL L id).1 last S ∧ Only S w w' := by
  unfold canL
  cases hf : findL L id with
  | none =>
    refine (cancel_none pa id L last S w h hid hf).mono ?_
    rintro e w' ⟨rfl, rfl⟩
    exact ⟨rfl, h, Only.refl _ _⟩
  | some k => exact cancel_some pa id L last S w h hid k hf

theorem mov_heap {L : List D2} {last : Int} {n : Nat} (h : St L last n) (hx : ∃ m, Idx L m) (id at_ : Int) : St (movL L id at_).1 last n := by
  obtain ⟨m, hx⟩ := hx
  unfold movL
  cases hf : findL L id with
  | none => exact h
  | some k =>
    obtain ⟨d, hd, _⟩ := findL_some hf
    by_cases hr : (decide (0 ≤ at_) && decide (at_ ≤ 1099511627776)) = true
    · simp only [hr, if_true]
      exact h.move hx (List.getElem?_eq_some_iff.1 hd).1 hr
    · rw [Bool.not_eq_true] at hr
      simp only [hr]
      exact h
theorem can_heap {L : List D2} {last : Int} {n : Nat} (h : St L last n) (id : Int) : St (canL L id).1 last n := by
  unfold canL
  cases hf : findL L id with
  | none => exact h
  | some k =>
    obtain ⟨d, hd, _⟩ := findL_some hf
    exact h.drop (List.getElem?_eq_some_iff.1 hd).1
/-- What Move does to the ticks. -/
theorem mov_tick {L : List D2} (hx : ∃ m, Idx L m) (id at_ : Int) (hu2 : Uq (movL L id at_).1) :
    ((movL L id at_).2 = true → (tickOf L id).isSome = true ∧ tickOf (movL L id at_).1 id = some at_) ∧ ((movL L id at_).2 = false → (movL L id at_).1 = L) ∧ ∀ id', id' ≠ id → tickOf (movL L id at_).1 id' = tickOf L id' := by
  obtain ⟨m, hx⟩ := hx
  have hu := hx.uq
  unfold movL at *
  cases hf : findL L id with
  | none => exact ⟨fun h => (by cases h), fun _ => rfl, fun _ _ => rfl⟩
  | some k =>
    rw [hf] at hu2
    obtain ⟨d, hd, he⟩ := findL_some hf
    have hk : k < L.length := (List.getElem?_eq_some_iff.1 hd).1
    have hfn := fn_of hd
    by_cases hr : (decide (0 ≤ at_) && decide (at_ ≤ 1099511627776)) = true
    · simp only [hr, if_true] at hu2 ⊢
      have hp := move_perm hk at_ (hx.rise_find hk at_)
      rw [hfn, he] at hp
      refine ⟨fun _ => ⟨by rw [← find_isSome, hf]; rfl, (tick_iff hu2 _ _).2 (hp.mem_iff.2 (List.mem_set hk _))⟩, fun h => (by cases h), fun id' hne => ?_⟩
      apply Option.ext
      intro t
      rw [tick_iff hu2, tick_iff hu, hp.mem_iff]
      constructor
      · intro h
        rcases List.mem_or_eq_of_mem_set h with h | h
        · exact h
        · exact absurd (congrArg Prod.snd h) hne
      · intro h
        obtain ⟨i, hi⟩ := List.getElem?_of_mem h
        have hik : k ≠ i := by
          rintro rfl
          rw [hd] at hi
          have := Option.some.inj hi
          apply hne
          rw [← he, this]
        exact List.mem_of_getElem? (i := i) (by rw [List.getElem?_set, if_neg hik]; exact hi)
    · rw [Bool.not_eq_true] at hr
      simp only [hr] at hu2 ⊢
      exact ⟨fun h => (by cases h), fun _ => rfl, fun _ _ => rfl⟩
/-- What is cancelled is not there any more. -/
theorem Idx.nodupL {L : List D2} {m : List (Int × Nat)} (h : Idx L m) : L.Nodup := by
  refine List.pairwise_iff_getElem.2 fun i j hi hj hij he => ?_
  have := h.uniq (List.getElem?_eq_getElem hi) (List.getElem?_eq_getElem hj) (by rw [he])
  omega
theorem can_tick {L : List D2} (hx : ∃ m, Idx L m) (id : Int) : (canL L id).2 = (tickOf L id).isSome ∧ tickOf (canL L id).1 id = none := by
  obtain ⟨m, hx⟩ := hx
  have hu := hx.uq
  unfold canL
  cases hf : findL L id with
  | none =>
    refine ⟨by rw [← find_isSome, hf]; rfl, ?_⟩
    unfold tickOf
    rw [hf]; rfl
  | some k =>
    obtain ⟨d, hd, he⟩ := findL_some hf
    have hk : k < L.length := (List.getElem?_eq_some_iff.1 hd).1
    have hp := drop_perm hk
    have hkd : L[k] = d := by rw [List.getElem?_eq_getElem hk] at hd; exact Option.some.inj hd
    rw [hkd] at hp
    refine ⟨by rw [← find_isSome, hf]; rfl, ?_⟩
    rw [tick_none]
    intro d' hd' he'
    have hm : d' ∈ L := hp.mem_iff.1 (List.mem_cons_of_mem _ hd')
    have heq : d' = d := hu _ hm _ (List.mem_of_getElem? hd) (by rw [he, he'])
    subst heq
    exact (List.nodup_cons.1 (hp.nodup_iff.2 hx.nodupL)).1 hd'
end Go.Proofs.Ytcnifhkgibopbaa
