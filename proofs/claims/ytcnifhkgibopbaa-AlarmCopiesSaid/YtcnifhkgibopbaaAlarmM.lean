/- The order of alarms: cmp.Compare, cmp.Or, the closure of List; slices.Clone at alarms. -/
import Derived.Test.YtcnifhkgibopbaaAlarmL
import Derived.Test.YtcnifhkgibopbaaHeapP
import Derived.Sort.Grow
set_option linter.unusedVariables false
set_option linter.unusedSimpArgs false
namespace Go.Proofs.Ytcnifhkgibopbaa
open Go.RowKit Go.MapKept Go.ChangeMaps

def cmpI (x y : Int) : Int := if x < y then -1 else if y < x then 1 else 0
def cmpD (a b : D2) : Int := if cmpI a.1 b.1 = 0 then cmpI a.2 b.2 else cmpI a.1 b.1
theorem cmpD_lt (a b : D2) : cmpD a b < 0 ↔ lt a b := by
  unfold cmpD cmpI lt
  split <;> split <;> (try split) <;> omega
theorem cmpI_range (x y : Int) : -1 ≤ cmpI x y ∧ cmpI x y ≤ 1 := by unfold cmpI; split <;> (try split) <;> omega

theorem nan_any (x : Int) (w : World) :
    Calls Try.prog 45 #[.int .i64 x] w fun e w' => e = .returned (.bool false) ∧ w = w' := by
  go_enter Try.func45, Try.ntmps45
  go_wp2_with fail
  go_ret
  exact ⟨by simp, rfl⟩
theorem cmp_any (x y : Int) (w : World) :
    Calls Try.prog 38 #[.int .i64 x, .int .i64 y] w fun e w' => e = .returned (.int .i64 (cmpI x y)) ∧ w = w' := by
  have HN := Lib.hid nan_any
  unfold cmpI
  by_cases h1 : x < y
  · rw [if_pos h1]
    go_enter Try.func38, Try.ntmps38
    go_wp2_with (first | (go_at_call 45; refine (HN.out _ _).mono ?_; rintro e w1 ⟨rfl, rfl⟩) | fail)
    go_ret
    exact ⟨rfl, rfl⟩
  · rw [if_neg h1]
    by_cases h2 : y < x
    · rw [if_pos h2]
      go_enter Try.func38, Try.ntmps38
      go_wp2_with (first | (go_at_call 45; refine (HN.out _ _).mono ?_; rintro e w1 ⟨rfl, rfl⟩) | fail)
      go_ret
      exact ⟨rfl, rfl⟩
    · rw [if_neg h2]
      go_enter Try.func38, Try.ntmps38
      go_wp2_with (first | (go_at_call 45; refine (HN.out _ _).mono ?_; rintro e w1 ⟨rfl, rfl⟩) | fail)
      go_ret
      exact ⟨rfl, rfl⟩
theorem or_two (g : Nat) (a b : Int) (w : World) (h0 : w.cell? ⟨g, 0, none⟩ = some (.int .i64 a)) (h1 : w.cell? ⟨g, 1, none⟩ = some (.int .i64 b)) :
    Calls Try.prog 37 #[.slice (some ⟨g, 0, none⟩) 2 2] w fun e w' => e = .returned (.int .i64 (if a = 0 then b else a)) ∧ w = w' := by
  have H0 := Lib.hid h0
  have H1 := Lib.hid h1
  clear h0 h1
  go_enter Try.func37, Try.ntmps37
  go_wp2_with fail
  go_loopw [8] (fun jv wr => (jv = .int .i64 0 ∨ (jv = .int .i64 1 ∧ a = 0) ∨ (jv = .int .i64 2 ∧ a = 0 ∧ b = 0)) ∧ w = wr) (fun jv _ => 2 - (intOf jv).toNat)
  case atStart => exact ⟨.inl rfl, rfl⟩
  case round =>
    obtain ⟨hj, rfl⟩ := hrel
    rcases hj with rfl | ⟨rfl, ha⟩ | ⟨rfl, ha, hb⟩
    · have h0 := H0.out
      by_cases ha : a = 0
      · subst ha
        go_wp2_with fail
        go_roundw
        case measure => simp [intOf]
        · exact ⟨.inr (.inl ⟨rfl, trivial⟩), trivial⟩
      · have q : (a != 0) = true := by simpa using ha
        have HA := Lib.hid ha
        clear ha
        go_wp2_with fail
        go_ret
        exact ⟨rfl, rfl⟩
    · have h1 := H1.out
      subst ha
      by_cases hb : b = 0
      · subst hb
        go_wp2_with fail
        go_roundw
        case measure => simp [intOf]
        · exact ⟨.inr (.inr ⟨rfl, trivial, trivial⟩), trivial⟩
      · have q : (b != 0) = true := by simpa using hb
        go_wp2_with fail
        go_ret
        exact ⟨rfl, rfl⟩
    · subst ha hb
      go_wp2_with fail
      go_ret
      exact ⟨rfl, rfl⟩
theorem three_cells (w : World) (x y : Value) (t : TypeId) : (w.alloc (.cells #[x, y] t)).cell? ⟨w.heap.size, 0, none⟩ = some x ∧ (w.alloc (.cells #[x, y] t)).cell? ⟨w.heap.size, 1, none⟩ = some y :=
  ⟨cell_of_cells (heap_alloc w _).1 0, cell_of_cells (heap_alloc w _).1 1⟩
/-- A world behind draws and new blocks. -/
def Gr (W W' : World) : Prop := ∃ q os', W' = Go.Sort.grow (W.drewN q) os'
theorem Gr.alloc {W W' : World} (h : Gr W W') (o : Obj) : Gr W (W'.alloc o) := by
  obtain ⟨q, os, rfl⟩ := h
  exact ⟨q, os ++ #[o], by rw [Go.Sort.alloc_eq_grow, Go.Sort.grow_grow]⟩
theorem Gr.drew {W W' : World} (h : Gr W W') : Gr W W'.drew := by
  obtain ⟨q, os, rfl⟩ := h
  exact ⟨q + 1, os, rfl⟩
theorem Gr.refl (W : World) : Gr W W := ⟨0, #[], by simp [Go.Sort.grow, World.drewN]⟩
set_option maxHeartbeats 1000000 in
theorem listcmp_any (x y : D2) (W : World) :
    Calls Try.prog 36 #[.agg #[.int .i64 x.1, .int .i64 x.2], .agg #[.int .i64 y.1, .int .i64 y.2]] W fun e w' => e = .returned (.int .i64 (cmpD x y)) ∧ Gr W w' := by
  have HC := Lib.hid cmp_any
  unfold cmpD
  generalize hc1 : cmpI x.1 y.1 = c1
  generalize hc2 : cmpI x.2 y.2 = c2
  generalize hr : (if c1 = 0 then c2 else c1) = r
  have HO2 : Hid (∀ g w, w.cell? ⟨g, 0, none⟩ = some (.int .i64 c1) → w.cell? ⟨g, 1, none⟩ = some (.int .i64 c2) → Calls Try.prog 37 #[.slice (some ⟨g, 0, none⟩) 2 2] w fun e w' => e = .returned (.int .i64 r) ∧ w = w') := Lib.hid (fun g w h0 h1 => by have := or_two g c1 c2 w h0 h1; rw [hr] at this; exact this)
  have HC1 := Lib.hid hc1
  have HC2 := Lib.hid hc2
  clear hc1 hc2 hr
  go_enter Try.func36, Try.ntmps36
  go_wp2_with fail
  have hxy := heap_two W (Obj.cells #[Value.int IntKind.i64 x.fst, Value.int IntKind.i64 x.snd] 33) (Obj.cells #[Value.int IntKind.i64 y.fst, Value.int IntKind.i64 y.snd] 33)
  have e0 := cell_of_cells hxy.1 0
  have e1 := cell_of_cells hxy.1 1
  have e2 := cell_of_cells hxy.2 0
  have e3 := cell_of_cells hxy.2 1
  have hgr := ((Gr.refl W).alloc (Obj.cells #[Value.int IntKind.i64 x.fst, Value.int IntKind.i64 x.snd] 33)).alloc (Obj.cells #[Value.int IntKind.i64 y.fst, Value.int IntKind.i64 y.snd] 33)
  generalize ((W.alloc (Obj.cells #[Value.int IntKind.i64 x.fst, Value.int IntKind.i64 x.snd] 33)).alloc (Obj.cells #[Value.int IntKind.i64 y.fst, Value.int IntKind.i64 y.snd] 33)) = W2 at e0 e1 e2 e3 hgr ⊢
  clear hxy
  simp only [List.getElem?_toArray, List.getElem?_cons_zero, List.getElem?_cons_succ] at e0 e1 e2 e3
  have n1 : W2.heap.size ≠ W.heap.size := World.new_ne W2 _ e0
  have n2 : W2.heap.size ≠ W.heap.size + 1 := World.new_ne W2 _ e2
  go_region_held3 (fun Wx => Wx.cell? ⟨W.heap.size, 0, none⟩ = some (.int .i64 x.1) ∧ Wx.cell? ⟨W.heap.size, 1, none⟩ = some (.int .i64 x.2) ∧ Wx.cell? ⟨W.heap.size + 1, 0, none⟩ = some (.int .i64 y.1) ∧ Wx.cell? ⟨W.heap.size + 1, 1, none⟩ = some (.int .i64 y.2) ∧ Gr W Wx)
    (first | (refine ⟨?_, ?_, ?_, ?_, ?_⟩ <;> first | assumption | exact Gr.drew (by assumption) | exact Gr.alloc (by assumption) _ | exact Gr.drew (Gr.alloc (by assumption) _) | exact Gr.alloc (Gr.drew (by assumption)) _ | go_keep))
    (first | (go_at_call 38; refine (HC.out _ _ _).mono ?_; rintro e w1 ⟨rfl, rfl⟩; (first | rw [HC1.out] | rw [HC2.out])) | (go_at_call 37; refine (HO2.out _ _ (by first | (rw [World.cell?_drew]; with_reducible exact (three_cells _ _ _ _).1) | with_reducible exact (three_cells _ _ _ _).1) (by first | (rw [World.cell?_drew]; with_reducible exact (three_cells _ _ _ _).2) | with_reducible exact (three_cells _ _ _ _).2)).mono ?_; rintro e w1 ⟨rfl, rfl⟩))
  all_goals (try go_wp2_with fail)
  all_goals go_ret
  all_goals exact ⟨rfl, by first | assumption | exact Gr.drew (by assumption) | exact Gr.alloc (by assumption) _ | exact Gr.drew (Gr.alloc (by assumption) _) | exact Gr.alloc (Gr.drew (by assumption)) _⟩
end Go.Proofs.Ytcnifhkgibopbaa
