/- One call on both: the heap of alarms, and the row in a box. -/
import Derived.Test.YtcnifhkgibopbaaAllP
import Derived.Test.YtcnifhkgibopbaaAlarmP
import Derived.Test.YtcnifhkgibopbaaAlarmQ
set_option linter.unusedVariables false
set_option linter.unusedSimpArgs false
namespace Go.Proofs.Ytcnifhkgibopbaa
open Go.RowKit Go.MapKept Go.ChangeMaps

/-- The alarms at pa are L; the box br holds the row in order, and the last number. -/
structure RS (w : World) (pa br : Nat) (L : List D2) (last : Int) (n : Nat) (S : Nat → Prop) (v : Value) (W : World) : Prop where
  alm : Alm W pa L last S
  st : St L last n
  sub : ∀ k, S k → w.heap.size ≤ k
  below : Below w.heap.size w W
  box : W.heap[br]? = some (.cells #[v, .int .i64 last] 47 (0, 0))
  rd : Rd due W v (sortL L)
  fr : ∀ g, v.ownBlock = some g → ¬ S g ∧ g ≠ br ∧ g < W.heap.size
  nb : ¬ S br
  lo : w.heap.size ≤ br
theorem RS.other {w : World} {pa br : Nat} {L : List D2} {last : Int} {n : Nat} {S X : Nat → Prop} {v : Value} {W W' : World} (h : RS w pa br L last n S v W) (ho : Only X W W') (hb : Below w.heap.size w W')
    (hS : ∀ k, S k → ¬ X k) (hbr : ¬ X br) (hv : ∀ g, v.ownBlock = some g → ¬ X g) : RS w pa br L last n S v W' :=
  ⟨h.alm.other ho hS, h.st, h.sub, hb, ho.obj h.box hbr, h.rd.only ho hv, fun g hg => ⟨(h.fr g hg).1, (h.fr g hg).2.1, Nat.lt_of_lt_of_le (h.fr g hg).2.2 ho.size⟩, h.nb, h.lo⟩
theorem RS.later {w : World} {pa br : Nat} {L : List D2} {last : Int} {n : Nat} {S : Nat → Prop} {v : Value} {W W' : World} (h : RS w pa br L last n S v W) (hb : Below W.heap.size W W') : RS w pa br L last n S v W' :=
  h.other (X := fun _ => False) (Only.of_below hb) (h.below.trans (hb.mono h.below.size)) (fun _ _ x => x) (fun x => x) (fun _ _ x => x)
theorem RS.lt {w : World} {pa br : Nat} {L : List D2} {last : Int} {n : Nat} {S : Nat → Prop} {v : Value} {W : World} (h : RS w pa br L last n S v W) : br < W.heap.size := lt_of_heap h.box

/-- The world at the call of does: the box is set, and two boxes more are there. -/
def wd (w2 : World) (br : Nat) (v2 : Value) (last2 : Int) (cA cB : Obj) : World := (((w2.setCell ⟨br, 0, none⟩ v2).setCell ⟨br, 1, none⟩ (.int .i64 last2)).alloc cA).alloc cB
theorem wd_only (w2 : World) (br : Nat) (v2 : Value) (last2 : Int) (cA cB : Obj) : Only (fun k => k = br) w2 (wd w2 br v2 last2 cA cB) :=
  (((((Only.refl (fun k => k = br) w2).setCell (p := ⟨br, 0, none⟩) (.inl rfl) v2).setCell (p := ⟨br, 1, none⟩) (.inl rfl) (.int .i64 last2)).alloc cA).alloc cB)
theorem RS.step {w : World} {pa br : Nat} {L : List D2} {last : Int} {n : Nat} {S : Nat → Prop} {v : Value} {W W1 w2 : World} (h : RS w pa br L last n S v W) (hb1 : Below W.heap.size W W1) (hb2 : Below W1.heap.size W1 w2)
    (kind at_ id : Int) {v2 : Value} (hr2 : Rd due w2 v2 (sortL (doL L last kind at_ id).L)) (ho2 : Old W1 w2 v v2) (cA cB : Obj) :
    Alm (wd w2 br v2 (doL L last kind at_ id).last cA cB) pa L last S ∧ Below w.heap.size w (wd w2 br v2 (doL L last kind at_ id).last cA cB) ∧
    ∀ w3 S2, Alm w3 pa (doL L last kind at_ id).L (doL L last kind at_ id).last S2 → (∀ k, S2 k → S k ∨ (wd w2 br v2 (doL L last kind at_ id).last cA cB).heap.size ≤ k) → Only S (wd w2 br v2 (doL L last kind at_ id).last cA cB) w3 →
      RS w pa br (doL L last kind at_ id).L (doL L last kind at_ id).last (n + 1) S2 v2 w3 := by
  have h2 := (h.later hb1).later hb2
  have hbr2 := h2.lt
  have how := wd_only w2 br v2 (doL L last kind at_ id).last cA cB
  have hsz : ∀ g, v2.ownBlock = some g → ¬ S g ∧ g ≠ br ∧ g < w2.heap.size := by
    intro g hg
    rcases ho2 g hg with ⟨h3, h4⟩ | h3
    · have hbr1 := (h.later hb1).lt
      exact ⟨fun hs => by have := (h.later hb1).alm.low g hs; omega, by omega, h4⟩
    · exact h2.fr g h3
  have hal := h2.alm.other how (fun k hs he => h.nb (he ▸ hs))
  have hbd := below_of_only h2.below how h2.below.size (fun k he => he ▸ h.lo)
  have hbox : (wd w2 br v2 (doL L last kind at_ id).last cA cB).heap[br]? = some (.cells #[v2, .int .i64 (doL L last kind at_ id).last] 47 (0, 0)) := by
    have h5 := heap_set_eq (i := 1) _ (.int .i64 (doL L last kind at_ id).last) (heap_set_eq (i := 0) w2 v2 h2.box)
    have h6 : (#[v, Value.int .i64 last].setIfInBounds 0 v2).setIfInBounds 1 (.int .i64 (doL L last kind at_ id).last) = #[v2, .int .i64 (doL L last kind at_ id).last] := by simp
    rw [h6] at h5
    exact heap_alloc_lt _ _ (heap_alloc_lt _ _ h5)
  refine ⟨hal, hbd, fun w3 S2 ha3 hs3 ho3 => ?_⟩
  have hlt : ∀ g, g < w2.heap.size → g < (wd w2 br v2 (doL L last kind at_ id).last cA cB).heap.size := fun g hg => Nat.lt_of_lt_of_le hg how.size
  have hno : ∀ g, g < w2.heap.size → ¬ S g → ¬ S2 g := fun g hg hS hs => by
    rcases hs3 g hs with h | h
    · exact hS h
    · have := hlt g hg; omega
  refine ⟨ha3, h.st.do_ h.alm.idx kind at_ id, fun k hs => ?_, below_of_only hbd ho3 hbd.size h.sub, ho3.obj hbox h.nb, (hr2.only how (fun g hg => (hsz g hg).2.1)).only ho3 (fun g hg => (hsz g hg).1), fun g hg => ?_, hno br hbr2 h.nb, h.lo⟩
  · rcases hs3 k hs with h' | h'
    · exact h.sub k h'
    · have := hbd.size; omega
  · obtain ⟨q1, q2, q3⟩ := hsz g hg
    exact ⟨hno g q3 q1, q2, Nat.lt_of_lt_of_le (hlt g q3) ho3.size⟩
/-- What the call told stays as it is while the other one does it. -/
theorem RS.told {w : World} {pa br : Nat} {L : List D2} {last : Int} {n : Nat} {S : Nat → Prop} {v : Value} {W W1 w2 : World} (h : RS w pa br L last n S v W) (hb1 : Below W.heap.size W W1) (hb2 : Below W1.heap.size W1 w2)
    {vo : Value} {X : List D2} (hro : Rd due w2 vo X) (hoo : Old W1 w2 v vo) {v2 : Value} {last2 : Int} {cA cB : Obj} {w3 : World} (ho3 : Only S (wd w2 br v2 last2 cA cB) w3) : Rd due w3 vo X := by
  have h2 := (h.later hb1).later hb2
  have hsz : ∀ g, vo.ownBlock = some g → ¬ S g ∧ g ≠ br := by
    intro g hg
    rcases hoo g hg with ⟨h3, h4⟩ | h3
    · have hbr1 := (h.later hb1).lt
      exact ⟨fun hs => by have := (h.later hb1).alm.low g hs; omega, by omega⟩
    · exact ⟨(h2.fr g h3).1, (h2.fr g h3).2.1⟩
  exact (hro.only (wd_only w2 br v2 last2 cA cB) (fun g hg => (hsz g hg).2)).only ho3 (fun g hg => (hsz g hg).1)
theorem RS.want {w : World} {pa br : Nat} {L : List D2} {last : Int} {n : Nat} {S : Nat → Prop} {v : Value} {W W1 w2 : World} (h : RS w pa br L last n S v W) (hb1 : Below W.heap.size W W1) (hb2 : Below W1.heap.size W1 w2)
    {v2 : Value} {last2 : Int} {cA cB : Obj} {w3 : World} (ho3 : Only S (wd w2 br v2 last2 cA cB) w3) : w3.heap[w2.heap.size + 1]? = some cB := by
  have h2 := (h.later hb1).later hb2
  have hx : (wd w2 br v2 last2 cA cB).heap[w2.heap.size + 1]? = some cB := by
    have := (heap_alloc (((w2.setCell ⟨br, 0, none⟩ v2).setCell ⟨br, 1, none⟩ (.int .i64 last2)).alloc cA) cB).1
    simp only [wd]
    simpa using this
  exact ho3.obj hx (fun hs => by have := h2.alm.low _ hs; omega)
theorem same_self (a b : Value) (L : List D2) (w : World) (ha : Rd due w a L) (hb : Rd due w b L) :
    Calls Try.prog 18 #[a, b] w fun e w' => e = .returned (.bool true) ∧ Below w.heap.size w w' := by
  refine (same_any a b L L w ha hb).mono ?_
  rintro e w' ⟨rfl, h⟩
  exact ⟨by simp, h⟩
/-- The two have no block in common. -/
structure Dis (S T : Nat → Prop) (v : Value) (br bq : Nat) : Prop where
  st : ∀ k, S k → ¬ T k ∧ k ≠ bq
  br : ¬ T br ∧ br ≠ bq
  v : ∀ g, v.ownBlock = some g → ¬ T g ∧ g ≠ bq
theorem RS.copy {w : World} {pa br pc : Nat} {L : List D2} {last : Int} {n : Nat} {S T : Nat → Prop} {v : Value} {W w5 : World} (h : RS w pa br L last n S v W) (ha : Alm w5 pc L last T) (hs : ∀ k, T k → W.heap.size ≤ k) (hb : Below W.heap.size W w5) :
    RS w pc w5.heap.size L last n T v (w5.alloc (.cells #[v, .int .i64 last] 47)) ∧ RS w pa br L last n S v (w5.alloc (.cells #[v, .int .i64 last] 47)) ∧ Dis S T v br w5.heap.size := by
  have hA : Below W.heap.size W (w5.alloc (.cells #[v, .int .i64 last] 47)) := hb.alloc hb.size _
  have hl := h.later hA
  have h5 := hb.size
  have hW := h.below.size
  have hlt := h.lt
  have hlow := h.alm.low
  refine ⟨⟨ha.below ((Below.refl _ _).alloc (Nat.le_refl _) _), h.st, fun k hk => by have := hs k hk; omega, hl.below, (heap_alloc w5 _).1, hl.rd, fun g hg => ?_, fun hT => Nat.lt_irrefl _ (ha.low _ hT), by omega⟩, hl, ⟨fun k hk => ?_, ⟨fun hT => ?_, by omega⟩, fun g hg => ?_⟩⟩
  · have := (h.fr g hg).2.2
    exact ⟨fun hT => by have := hs g hT; omega, by omega, by simp; omega⟩
  · have := hlow k hk
    exact ⟨fun hT => by have := hs k hT; omega, by omega⟩
  · have := hs _ hT; omega
  · have := (h.fr g hg).2.2
    exact ⟨fun hT => by have := hs g hT; omega, by omega⟩
/-- The other one stays as it is while this one is called. -/
theorem RS.beside {w : World} {pa br bq : Nat} {L : List D2} {last : Int} {n : Nat} {S T T2 : Nat → Prop} {v : Value} {W W1 w2 : World} (h : RS w pa br L last n S v W) (d : Dis S T v br bq) (hb1 : Below W.heap.size W W1) (hb2 : Below W1.heap.size W1 w2)
    {v2 : Value} {last2 : Int} {cA cB : Obj} {w3 : World} (ho3 : Only T (wd w2 bq v2 last2 cA cB) w3) (hbq : w.heap.size ≤ bq) (hT : ∀ k, T k → w.heap.size ≤ k) (hs : ∀ k, T2 k → T k ∨ (wd w2 bq v2 last2 cA cB).heap.size ≤ k) :
    RS w pa br L last n S v w3 ∧ Dis S T2 v br bq := by
  have h2 := (h.later hb1).later hb2
  have how := wd_only w2 bq v2 last2 cA cB
  have h3 := h2.other how (below_of_only h2.below how h2.below.size (fun k he => he ▸ hbq)) (fun k hk he => (d.st k hk).2 he) (fun he => d.br.2 he) (fun g hg he => (d.v g hg).2 he)
  have h4 := h3.other ho3 (below_of_only h3.below ho3 h3.below.size hT) (fun k hk => (d.st k hk).1) d.br.1 (fun g hg => (d.v g hg).1)
  have hno : ∀ k, k < (wd w2 bq v2 last2 cA cB).heap.size → ¬ T k → ¬ T2 k := fun k hk hn ht => by
    rcases hs k ht with h | h
    · exact hn h
    · omega
  exact ⟨h4, ⟨fun k hk => ⟨hno k (h3.alm.low k hk) (d.st k hk).1, (d.st k hk).2⟩, ⟨hno br h3.lt d.br.1, d.br.2⟩, fun g hg => ⟨hno g (h3.fr g hg).2.2 (d.v g hg).1, (d.v g hg).2⟩⟩⟩
end Go.Proofs.Ytcnifhkgibopbaa
