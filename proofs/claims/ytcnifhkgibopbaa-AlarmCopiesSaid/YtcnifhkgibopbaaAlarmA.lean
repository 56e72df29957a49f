/- The alarms in memory, and the walks of lay, swap, right, ahead. -/
import Derived.Test.YtcnifhkgibopbaaProg
import Derived.Test.YtcnifhkgibopbaaMem
import Derived.Outline
import Derived.Deep.RegionHeld3
import Derived.Deep.DeepCutAuto
set_option linter.unusedVariables false
set_option linter.unusedSimpArgs false
namespace Go.Proofs.Ytcnifhkgibopbaa
open Go.RowKit Go.MapKept Go.ChangeMaps

def due (d : Int × Int) : List Value := [.int .i64 d.1, .int .i64 d.2]
theorem due_length (d : Int × Int) : (due d).length = 2 := rfl
def nk (k : Nat) : Value := .int .i64 k

/-- Pointer pa stands for alarms: row L (slice v), map m (block mb), the last number; all in S. -/
structure AlmRaw (w : World) (pa mb : Nat) (v : Value) (L : List (Int × Int)) (m : List (Int × Nat)) (last : Int) (S : Nat → Prop) : Prop where
  box : w.heap[pa]? = some (.cells #[v, .map (some mb), .int .i64 last] 62 (0, 0))
  row : w.ownsRow 0 33 2 v L.length (flat due L)
  map : GMap Try.prog 3 ik iok nk w mb m
  inS : S pa ∧ S mb ∧ ∀ g, v.ownBlock = some g → S g ∧ g ≠ pa ∧ g ≠ mb
  ne : pa ≠ mb
  low : ∀ k, S k → k < w.heap.size

theorem AlmRaw.drew {w : World} {pa mb : Nat} {v : Value} {L : List (Int × Int)} {m : List (Int × Nat)} {last : Int} {S : Nat → Prop} (h : AlmRaw w pa mb v L m last S) : AlmRaw w.drew pa mb v L m last S :=
  ⟨h.box, h.row, h.map, h.inS, h.ne, h.low⟩
/-- The alarms stay while other blocks turn. -/
theorem AlmRaw.other {w w' : World} {pa mb : Nat} {v : Value} {L : List (Int × Int)} {m : List (Int × Nat)} {last : Int} {S S' : Nat → Prop} (h : AlmRaw w pa mb v L m last S) (ho : Only S' w w') (hd : ∀ k, S k → ¬ S' k) : AlmRaw w' pa mb v L m last S :=
  ⟨ho.obj h.box (hd _ h.inS.1), ho.own h.row fun g hg => hd _ (h.inS.2.2 g hg).1, h.map.only ho (hd _ h.inS.2.1), h.inS, h.ne, fun k hk => Nat.lt_of_lt_of_le (h.low k hk) ho.size⟩
theorem AlmRaw.alloc {w : World} {pa mb : Nat} {v : Value} {L : List (Int × Int)} {m : List (Int × Nat)} {last : Int} {S : Nat → Prop} (h : AlmRaw w pa mb v L m last S) (o : Obj) : AlmRaw (w.alloc o) pa mb v L m last S :=
  h.other (S' := fun _ => False) ((Only.refl _ w).alloc o) fun _ _ x => x

theorem flat_due_at {L : List (Int × Int)} {k : Nat} {d : Int × Int} (h : L[k]? = some d) : (flat due L)[k * 2]? = some (.int .i64 d.1) ∧ (flat due L)[k * 2 + 1]? = some (.int .i64 d.2) :=
  ⟨by have := flat_at due_length L k d 0 h (by omega); simpa [due] using this, by have := flat_at due_length L k d 1 h (by omega); simpa [due] using this⟩
theorem flat_due_set (L : List (Int × Int)) (k : Nat) (hk : k < L.length) (x y : Int) : ((flat due L).set (k * 2) (.int .i64 x)).set (k * 2 + 1) (.int .i64 y) = flat due (L.set k (x, y)) := by
  rw [flat_set due_length L k hk]
  have hl : (flat due L).length = L.length * 2 := flat_length due_length L
  apply List.ext_getElem?
  intro i
  rw [List.getElem?_set, List.getElem?_set]
  simp only [List.length_set, due]
  rw [List.append_assoc, List.getElem?_append]
  rw [List.length_take, Nat.min_eq_left (by omega)]
  by_cases h1 : i < k * 2
  · rw [if_neg (by omega), if_neg (by omega), if_pos h1, List.getElem?_take, if_pos h1]
  · rw [if_neg h1]
    by_cases h2 : k * 2 = i
    · subst h2
      rw [if_neg (by omega), if_pos rfl, if_pos (by omega)]; simp
    · by_cases h3 : k * 2 + 1 = i
      · subst h3
        rw [if_pos rfl, if_pos (by omega)]; simp
      · rw [if_neg h3, if_neg h2]
        rw [List.getElem?_append_right (by simp; omega), List.getElem?_drop]
        congr 1
        simp
        omega

/-- What the walk reads of the row. -/
theorem AlmRaw.cells {w : World} {pa mb g cap : Nat} {L : List (Int × Int)} {m : List (Int × Nat)} {last : Int} {S : Nat → Prop} (h : AlmRaw w pa mb (.slice (some ⟨g, 0, none⟩) L.length cap) L m last S) {k : Nat} {d : Int × Int} (hk : L[k]? = some d) :
    w.cell? ⟨g, k * 2, none⟩ = some (.int .i64 d.1) ∧ w.cell? ⟨g, k * 2 + 1, none⟩ = some (.int .i64 d.2) ∧ w.frozen? ⟨g, k * 2, none⟩ = false ∧ w.frozen? ⟨g, k * 2 + 1, none⟩ = false := by
  have hl : k < L.length := (List.getElem?_eq_some_iff.1 hk).1
  have hc := flat_due_at hk
  exact ⟨by rw [h.row.cellAt _ (by omega)]; exact hc.1, by rw [h.row.cellAt _ (by omega)]; exact hc.2, h.row.frozenAt _, h.row.frozenAt _⟩
theorem AlmRaw.heads {w : World} {pa mb : Nat} {v : Value} {L : List (Int × Int)} {m : List (Int × Nat)} {last : Int} {S : Nat → Prop} (h : AlmRaw w pa mb v L m last S) :
    w.cell? ⟨pa, 0, none⟩ = some v ∧ w.cell? ⟨pa, 1, none⟩ = some (.map (some mb)) ∧ w.cell? ⟨pa, 2, none⟩ = some (.int .i64 last) ∧ w.frozen? ⟨pa, 0, none⟩ = false ∧ w.frozen? ⟨pa, 1, none⟩ = false ∧ w.frozen? ⟨pa, 2, none⟩ = false := by
  have hc := cell_of_cells h.box
  have hf := free_of_cells h.box
  exact ⟨by rw [hc]; rfl, by rw [hc]; rfl, by rw [hc]; rfl, hf 0, hf 1, hf 2⟩
theorem AlmRaw.lens {w : World} {pa mb g n cap : Nat} {L : List (Int × Int)} {m : List (Int × Nat)} {last : Int} {S : Nat → Prop} (h : AlmRaw w pa mb (.slice (some ⟨g, 0, none⟩) n cap) L m last S) : n = L.length ∧ n ≤ cap ∧ cap ≤ maxLen := by
  have hr := h.row
  rcases hr.2 with ⟨hv, _⟩ | ⟨g', cap', cur, hv, _, _, h1, h2, _⟩
  · cases hv
  · injection hv with _ e1 e2
    subst e1; subst e2
    exact ⟨rfl, h1, h2⟩
/-- A row's place is stored. -/
theorem AlmRaw.stored {w : World} {pa mb g cap : Nat} {L : List (Int × Int)} {m : List (Int × Nat)} {last : Int} {S : Nat → Prop} (h : AlmRaw w pa mb (.slice (some ⟨g, 0, none⟩) L.length cap) L m last S) (k : Nat) (hk : k < L.length) (x y : Int) :
    AlmRaw ((w.setCell ⟨g, k * 2, none⟩ (.int .i64 x)).setCell ⟨g, k * 2 + 1, none⟩ (.int .i64 y)) pa mb (.slice (some ⟨g, 0, none⟩) L.length cap) (L.set k (x, y)) m last S ∧
    Only S w ((w.setCell ⟨g, k * 2, none⟩ (.int .i64 x)).setCell ⟨g, k * 2 + 1, none⟩ (.int .i64 y)) := by
  have hg := h.inS.2.2 g rfl
  refine ⟨⟨?_, ?_, ?_, h.inS, h.ne, ?_⟩, ?_⟩
  · exact heap_set_ne _ _ _ (heap_set_ne _ _ _ h.box (Ne.symm hg.2.1)) (Ne.symm hg.2.1)
  · have := ((h.row.stored (k * 2) (.int .i64 x)).1.stored (k * 2 + 1) (.int .i64 y)).1
    rw [flat_due_set L k hk] at this
    rw [List.length_set]
    exact this
  · refine h.map.of_block ?_
    rw [Below.heap_setCell _ _ _ _ (Ne.symm hg.2.2), Below.heap_setCell _ _ _ _ (Ne.symm hg.2.2)]
  · intro k hk; simpa using h.low k hk
  · exact ((Only.refl S w).setCell (.inl hg.1) _).setCell (.inl hg.1) _

theorem right_any (at_ : Int) (w : World) :
    Calls Try.prog 26 #[.int .i64 at_] w fun e w' => e = .returned (.bool (decide (0 ≤ at_) && decide (at_ ≤ 1099511627776))) ∧ w = w' := by
  by_cases h : 0 ≤ at_
  all_goals
    go_enter Try.func26, Try.ntmps26
    go_wp2
    go_ret
    exact ⟨by first | (simp [h]; done) | (simp; omega), rfl⟩


theorem lay_any (pa mb g cap k : Nat) (x y : Int) (L : List (Int × Int)) (m : List (Int × Nat)) (last : Int) (S : Nat → Prop) (w : World)
    (h : AlmRaw w pa mb (.slice (some ⟨g, 0, none⟩) L.length cap) L m last S) (hk : k < L.length) (hy : iok y) (k' : Int) (hk' : k' = k) (n : Nat) (hn : n = L.length) :
    Calls Try.prog 27 #[.pointer (some ⟨pa, 0, none⟩), .int .i64 k', .agg #[.int .i64 x, .int .i64 y]] w fun e w' => e = .returned (.tuple #[]) ∧
      AlmRaw w' pa mb (.slice (some ⟨g, 0, none⟩) L.length cap) (L.set k (x, y)) (mput m y k) last S ∧ Only S w w' := by
  subst hk'
  have hm := h.lens.2
  unfold maxLen at hm
  have hd : L[k]? = some L[k] := List.getElem?_eq_getElem hk
  obtain ⟨a0, a1, a2, a3, a4, a5⟩ := h.heads
  obtain ⟨c0, c1, c2, c3⟩ := h.cells hd
  have lpa := lt_of_heap h.box
  have lg := h.low g (h.inS.2.2 g rfl).1
  have lmb := h.map.lt
  have h1 := (h.stored k hk x y).1.alloc (.cells #[.int .i64 x, .int .i64 y] 33)
  have ho := (h.stored k hk x y).2.alloc (.cells #[.int .i64 x, .int .i64 y] 33)
  have hb := MapKept.heap_alloc ((w.setCell ⟨g, k * 2, none⟩ (.int .i64 x)).setCell ⟨g, k * 2 + 1, none⟩ (.int .i64 y)) (.cells #[.int .i64 x, .int .i64 y] 33)
  have hs : ((w.setCell ⟨g, k * 2, none⟩ (.int .i64 x)).setCell ⟨g, k * 2 + 1, none⟩ (.int .i64 y)).heap.size = w.heap.size := by simp
  rw [hs] at hb
  have hb1 := hb.1
  have H1 := Lib.hid h1
  have HO := Lib.hid ho
  have HB := Lib.hid hb1
  clear h1 hd ho hs hb hb1 hn
  go_enter Try.func27, Try.ntmps27
  go_wp2
  go_region
  go_wp2
  refine gen_world (fun W => Hid (AlmRaw W pa mb (.slice (some ⟨g, 0, none⟩) L.length cap) (L.set k (x, y)) m last S) ∧ Hid (Only S w W) ∧ Hid (W.heap[w.heap.size]? = some (.cells #[.int .i64 x, .int .i64 y] 33))) ⟨Lib.hid H1.out.drew, Lib.hid HO.out.drew, HB⟩ ?_
  clear H1 HO HB a0 a1 a2 a3 a4 a5 c0 c1 c2 c3
  intro W ⟨H1, HO, HB⟩
  obtain ⟨w2, hrun, hmap, honly⟩ := H1.out.drew.map.update (int_like Try.underlying3) Try.underlying60 y hy k
  obtain ⟨a0, a1, a2, a3, a4, a5⟩ := H1.out.heads
  have b1 : W.cell? ⟨w.heap.size, 1, none⟩ = some (.int .i64 y) := by rw [cell_of_cells HB.out]; rfl
  have HM := Lib.hid hmap
  have HP := Lib.hid honly
  clear hmap honly
  unfold ik nk at hrun
  go_region
  go_end0
  have h1 := H1.out
  refine ⟨rfl, ⟨?_, ?_, HM.out, h1.inS, h1.ne, ?_⟩, ?_⟩
  · exact HP.out.obj (w := W.drew) h1.box h1.ne
  · have := HP.out.own (w := W.drew) h1.row fun g hg => (h1.inS.2.2 g hg).2.2
    exact this
  · intro k hk; exact Nat.lt_of_lt_of_le (h1.low k hk) HP.out.size
  · exact HO.out.drew.trans HP.out fun i _ e => by rw [e]; exact h1.inS.2.1
end Go.Proofs.Ytcnifhkgibopbaa
