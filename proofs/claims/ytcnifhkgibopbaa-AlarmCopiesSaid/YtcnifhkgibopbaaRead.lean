/- What comes in, read as plain data: 'Opn P t f R': what is of type t has the cells 'f a' of some plain a, of which R holds. -/
import Derived.Test.YtcnifhkgibopbaaMem
import Derived.ProofKit
import Derived.OpenShut
import Derived.ChangeOld
import Derived.ChangeArms
import Derived.DataReads
import Derived.Deep.Slices
set_option linter.unusedVariables false
set_option linter.unusedSimpArgs false
namespace Go.Proofs.Ytcnifhkgibopbaa
open Go.RowKit Go.ChangeShapes Go.WideShapes Go.ChangeAt

/-- The slice v reads as L. -/
def Rd {α : Type} (f : α → List Value) (w : World) (v : Value) (L : List α) : Prop :=
  ∃ A c, v = .slice A L.length c ∧ L.length ≤ c ∧ L.length ≤ 9223372036854775807 ∧ (0 < L.length → ∃ b o, A = some ⟨b, o, none⟩ ∧ ∀ j u, (flat f L)[j]? = some u → w.cell? ⟨b, o + j, none⟩ = some u)
theorem Rd.below {α : Type} {f : α → List Value} {w w' : World} {v : Value} {L : List α} (h : Rd f w v L) (hb : Below w.heap.size w w') : Rd f w' v L := by
  obtain ⟨A, c, rfl, h1, h2, h3⟩ := h
  refine ⟨A, c, rfl, h1, h2, fun hp => ?_⟩
  obtain ⟨b, o, e, hc⟩ := h3 hp
  exact ⟨b, o, e, fun j u hu => cell_later hb (hc j u hu)⟩
theorem Rd.of_own {α : Type} {f : α → List Value} {s : Nat} (hf : ∀ x, (f x).length = s) {w : World} {base : Nat} {e : TypeId} {v : Value} {L : List α} (h : w.ownsRow base e s v L.length (flat f L)) : Rd f w v L := by
  rcases h.2 with ⟨rfl, h0⟩ | ⟨g, cap, cur, rfl, hb, hh, h1, h2, h3, h4⟩
  · exact ⟨none, 0, by rw [h0], by omega, by omega, fun hp => by omega⟩
  · refine ⟨_, cap, rfl, h1, by unfold maxLen at h2; omega, fun hp => ⟨g, 0, rfl, fun j u hu => ?_⟩⟩
    rw [Nat.zero_add, cell_of_cells hh, ← Array.getElem?_toList]
    rw [← h4, List.getElem?_take] at hu
    split at hu
    · exact hu
    · cases hu

def Opn (P : Program) (t : TypeId) {α : Type} (f : α → List Value) (R : World → α → Prop) : Prop :=
  ∀ (H : Type) (enc : TypeId × Value → H) (w : World) (base : Nat) (sp : Nat → Bool) (held : Bool) (fuel : Nat) (cs : List Value) (x : DataW H × List MemPlace), DataW.trod enc P w base sp held fuel t cs = some x → ∃ a : α, cs = f a ∧ R w a

variable {P : Program}
theorem opn_int {t : TypeId} {k : IntKind} (ht : P.underlying t = some (.int k)) : Opn P t (fun x : Int => [.int k x]) (fun _ x => (Lit.int k x).wf = true) := by
  intro H enc w base sp held fuel cs x h
  obtain ⟨n, rfl, _, hw⟩ := DataW.trod_int ht h
  exact ⟨n, rfl, hw⟩
theorem opn_bool {t : TypeId} (ht : P.underlying t = some .bool) : Opn P t (fun x : Bool => [.bool x]) (fun _ _ => True) := by
  intro H enc w base sp held fuel cs x h
  obtain ⟨n, rfl, _⟩ := DataW.trod_bool ht h
  exact ⟨n, rfl, trivial⟩
theorem opn_string {t : TypeId} (ht : P.underlying t = some .string) : Opn P t (fun x : ByteArray => [.string x]) (fun _ x => x.size ≤ 9223372036854775807) := by
  intro H enc w base sp held fuel cs x h
  obtain ⟨n, rfl, _, hw⟩ := DataW.trod_string ht h
  exact ⟨n, rfl, by unfold maxLen at hw; omega⟩
theorem opn_slice {t e : TypeId} {α : Type} {f : α → List Value} {R : World → α → Prop} {s : Nat} (ht : P.underlying t = some (.slice e)) (hs : P.cellsOf e = s) (hf : ∀ a, (f a).length = s) (hs0 : 0 < s) (he : Opn P e f R) :
    Opn P t (fun a : Value × List α => [a.1]) (fun w a => Rd f w a.1 a.2 ∧ ∀ x ∈ a.2, R w x) := by
  intro H enc w base sp held fuel cs x h
  rcases Go.Deep.open_slice ht h with ⟨rfl, _⟩ | ⟨a, len, cap, m, n, D, Pl, rfl, hb, hl, hm, hmm, _, hx⟩
  · exact ⟨(.slice none 0 0, []), rfl, ⟨none, 0, rfl, Nat.le_refl _, by simp, fun hp => by simp at hp⟩, by simp⟩
  · have hlm : len ≤ m := by rw [hmm]; split <;> omega
    have each : ∀ i : Fin len, ∃ y : α, (∀ j u, (f y)[j]? = some u → w.cell? (a.add (i.val * s + j)) = some u) ∧ R w y := by
      intro i
      obtain ⟨cs', h1, h2⟩ := hx i.val (by omega)
      obtain ⟨y, rfl, hR⟩ := he H enc w base sp held n cs' _ h2
      rw [hs] at h1
      obtain ⟨_, hlen, hcell⟩ := World.cells?_some h1
      refine ⟨y, fun j u hu => ?_, hR⟩
      have hj : j < s := by have := (List.getElem?_eq_some_iff.1 hu).1; rw [hf] at this; exact this
      have := hcell j hj
      rw [Go.Deep.add_add, hu] at this
      exact this
    obtain ⟨g, hg⟩ : ∃ g : Fin len → α, ∀ i, (∀ j u, (f (g i))[j]? = some u → w.cell? (a.add (i.val * s + j)) = some u) ∧ R w (g i) := ⟨fun i => (each i).choose, fun i => (each i).choose_spec⟩
    have hLl : (List.ofFn g).length = len := by simp
    refine ⟨(.slice (some a) len cap, List.ofFn g), rfl, ⟨some a, cap, by rw [hLl], by rw [hLl]; exact hl, by rw [hLl]; unfold maxLen at hm; omega, fun hp => ?_⟩, fun x hx => ?_⟩
    · rw [hLl] at hp
      obtain ⟨b, off, spot⟩ := a
      have hspot : spot = none := by
        have h0 := (hg ⟨0, hp⟩).1
        have hfl := hf (g ⟨0, hp⟩)
        obtain ⟨u, hu⟩ : ∃ u, (f (g ⟨0, hp⟩))[0]? = some u := ⟨_, List.getElem?_eq_getElem (by omega)⟩
        have hc := h0 0 u hu
        simpa [Addr.add] using World.cell?_spot hc
      subst hspot
      refine ⟨b, off, rfl, fun j u hu => ?_⟩
      have hj : j < len * s := by have := (List.getElem?_eq_some_iff.1 hu).1; rw [flat_length hf, hLl] at this; exact this
      have hq : j / s < len := (Nat.div_lt_iff_lt_mul hs0).2 hj
      have hjj : j / s * s + j % s = j := Nat.div_add_mod' j s
      have h1 := flat_at hf (List.ofFn g) (j / s) (g ⟨j / s, hq⟩) (j % s) (by rw [List.getElem?_ofFn, dif_pos hq]) (Nat.mod_lt _ hs0)
      rw [hjj, hu] at h1
      have h2 := (hg ⟨j / s, hq⟩).1 (j % s) u h1.symm
      simp only [hjj] at h2
      have e : (⟨b, off, none⟩ : Addr).add j = ⟨b, off + j, none⟩ := by unfold Addr.add; split <;> simp_all
      rw [e] at h2
      exact h2
    · obtain ⟨i, rfl⟩ := List.mem_ofFn.1 hx
      exact (hg i).2
/-- A struct whose fields are all of one cell. -/
theorem opn_struct1 {t : TypeId} {fs : Array Field} {α : Type} {f : α → List Value} {R : World → α → Prop} (ht : P.underlying t = some (.struct fs))
    (h : ∀ (H : Type) (enc : TypeId × Value → H) (w : World) (base : Nat) (sp : Nat → Bool) (held : Bool) (n : Nat) (cs : List Value) (xs : List (DataW H × List MemPlace)), cs.length = P.cellsOf t →
      (∀ (i : Nat) (fd : Field), fs[i]? = some fd → ∃ y, DataW.trod enc P w base sp held n fd.type ((cs.drop fd.offset).take (P.cellsOf fd.type)) = some y) → ∃ a, cs = f a ∧ R w a) : Opn P t f R := by
  intro H enc w base sp held fuel cs x hx
  obtain ⟨xs, n, rfl, _, hlen, hxs, hf⟩ := DataW.trod_struct ht hx
  refine h H enc w base sp held n cs xs hlen fun i fd hfd => ?_
  have hi : i < xs.length := by have := (Array.getElem?_eq_some_iff.1 hfd).1; omega
  exact ⟨xs[i], by rw [hf i fd hfd, List.getElem?_eq_getElem hi]⟩
/-- An argument: of one value. -/
theorem Opn.arg {t : TypeId} {α : Type} {f : α → List Value} {R : World → α → Prop} (h : Opn P t f R) {H : Type} {enc : TypeId × Value → H} {w : World} {base : Nat} {sp : Nat → Bool} {held : Bool} {v : Value} {d : DataW H} {ps : List MemPlace}
    (ht : DataW.Trod enc P w base sp held t v d ps) : ∃ a, v.cells.toList = f a ∧ R w a := by
  obtain ⟨fuel, hf⟩ := ht
  exact h H enc w base sp held fuel _ _ hf
end Go.Proofs.Ytcnifhkgibopbaa
