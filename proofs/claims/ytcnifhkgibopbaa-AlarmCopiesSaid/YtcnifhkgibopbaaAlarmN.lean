/- slices.Clone at alarms. -/
import Derived.Test.YtcnifhkgibopbaaAlarmM
import Derived.Test.YtcnifhkgibopbaaAlarmH
import Derived.Lib.SliceRun
set_option linter.unusedVariables false
set_option linter.unusedSimpArgs false
namespace Go.Proofs.Ytcnifhkgibopbaa
open Go.RowKit Go.MapKept Go.ChangeMaps

theorem cell_alloc' {W : World} {a : Addr} {v : Value} (h : W.cell? a = some v) (o : Obj) : (W.alloc o).cell? a = some v := by
  rw [World.cell?_alloc_old _ _ _ (Nat.ne_of_lt (World.block_lt_of_cell? _ _ h))]; exact h
theorem due_one (L : List D2) (u : Value) (h : u ∈ flat due L) : u.oneCell' = true := by
  simp only [flat, List.mem_flatMap] at h
  obtain ⟨d, _, h⟩ := h
  simp [due] at h
  rcases h with rfl | rfl <;> rfl
/-- What Clone hands back. -/
def Cl (w w' : World) (v' : Value) (L : List D2) : Prop :=
  (v' = .slice none 0 0 ∧ L = [] ∧ w = w') ∨ ∃ g cap, v' = .slice (some ⟨g, 0, none⟩) L.length cap ∧ w.heap.size ≤ g ∧ w'.ownsRow 0 33 2 v' L.length (flat due L) ∧ Below w.heap.size w w'
set_option maxRecDepth 100000 in
theorem clone_any (v : Value) (L : List D2) (w : World) (h : Rd due w v L) (hl : L.length ≤ 1000000) :
    Calls Try.prog 34 #[v] w fun e w' => ∃ v', e = .returned v' ∧ Cl w w' v' L := by
  obtain ⟨A, c, rfl, h1, h2, h3⟩ := h
  have HL := Lib.hid hl
  cases A with
  | none =>
    have h0 : L = [] := by
      cases L with
      | nil => rfl
      | cons x r => obtain ⟨_, _, h, _⟩ := h3 (by simp); cases h
    subst h0
    clear h1 h2 h3 hl
    have hnil := fun W => @Lib.run_eql_slice_nil Try.prog W 29 33 none 0 c 0 0 Try.underlying29
    go_enter Try.func34, Try.ntmps34
    go_wp2_with fail
    go_ret
    exact ⟨_, rfl, .inl ⟨rfl, rfl, rfl⟩⟩
  | some ad =>
    have HC := Lib.hid h3
    have hc : ∀ j u, (flat due L)[j]? = some u → w.cell? (ad.add j) = some u := by
      intro j u hu
      have hp : 0 < L.length := by
        cases L with
        | nil => simp [flat] at hu
        | cons x r => simp
      obtain ⟨b, o, e, hc⟩ := h3 hp
      cases e
      have := hc j u hu
      unfold Addr.add
      split
      · rename_i h0; subst h0; exact this
      · exact this
    have HCC := Lib.hid hc
    clear h1 h2 h3 hl hc
    have hnil := fun W => @Lib.run_eql_slice_nil Try.prog W 29 33 (some ad) L.length c 0 0 Try.underlying29
    go_enter Try.func34, Try.ntmps34
    go_wp2_with (first | (at_builtin; refine holdL ?_) | fail)
    refine HoldL.go ?_
    obtain ⟨i0, hi, hzz⟩ := Option.map_eq_some_iff.1 (show (Try.prog.info? 33).map (fun i => (i.zero, i.size, i.bytes)) = some (some (.agg #[.int .i64 0, .int .i64 0]), 2, 16) by kernel_rfl)
    simp only [Prod.mk.injEq] at hzz
    obtain ⟨hz0, hz1, hz2⟩ := hzz
    have hL := HL.out
    refine wpList_append_own_at (w.alloc (.cells #[] 33)) rfl _ _ 29 rfl 0 33 i0 (.agg #[.int .i64 0, .int .i64 0]) 2 16 Try.underlying29 hi hz0 hz1 hz2 rfl (by omega)
      (.slice (some ⟨w.heap.size, 0, none⟩) 0 0) 0 [] rfl (World.ownsRow_lit (base := 0) (e := 33) (size := 2) w #[] 0 (Nat.zero_le _) (by simp [maxLen]) rfl) ad L.length c (flat due L) rfl
      (flat_length due_length L) (fun j u hu => cell_alloc' (HCC.out j u hu) _) (fun u hu => due_one L u hu) (by simp only [maxLen]; omega) (by omega) (Nat.zero_le _) ?_
    intro v1 w2 hown2 hg2 _ hat2
    have hb0 : Below w.heap.size w (w.alloc (.cells #[] 33)) := (Below.refl _ w).alloc (Nat.le_refl _) _
    have hb2 : Below w.heap.size w w2 := hb0.grown hg2 hb0.size (fun k hk => by simp [Value.ownBlock] at hk; omega)
    have hv1 : ∃ g cap, v1 = .slice (some ⟨g, 0, none⟩) L.length cap ∧ w.heap.size ≤ g := by
      have hform := hown2
      obtain ⟨hl, h2⟩ := hform
      rcases h2 with ⟨rfl, h2⟩ | ⟨g', cap', cur, rfl, _⟩
      · rcases hat2 with e | e <;> simp [Value.ownBlock] at e
      · refine ⟨g', cap', by simp, ?_⟩
        rcases hat2 with e | e
        · simp [Value.ownBlock] at e; omega
        · simp [Value.ownBlock] at e; omega
    obtain ⟨g, cap, rfl, hg⟩ := hv1
    have HO := Lib.hid hown2
    have HB := Lib.hid hb2
    have HG := Lib.hid hg
    clear hown2 hg2 hat2 hb0 hb2 hg hi hz0 hz1 hz2
    go_wp2_with fail
    go_ret
    refine ⟨_, rfl, .inr ⟨g, cap, rfl, HG.out, ?_, HB.out⟩⟩
    have := HO.out
    simpa using this
end Go.Proofs.Ytcnifhkgibopbaa
