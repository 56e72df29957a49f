/- Copy: another alarms with the same. -/
import Derived.Test.YtcnifhkgibopbaaAlarmN
import Derived.Test.YtcnifhkgibopbaaMc
set_option linter.unusedVariables false
set_option linter.unusedSimpArgs false
namespace Go.Proofs.Ytcnifhkgibopbaa
open Go.RowKit Go.MapKept Go.ChangeMaps

theorem cl_below {w w' : World} {v' : Value} {L : List D2} (h : Cl w w' v' L) : Below w.heap.size w w' := by
  rcases h with ⟨_, _, rfl⟩ | ⟨_, _, _, _, _, h⟩
  · exact Below.refl _ _
  · exact h
theorem cl_slice {w w' : World} {v' : Value} {L : List D2} (h : Cl w w' v' L) : ∃ A c, v' = .slice A L.length c := by
  rcases h with ⟨rfl, rfl, _⟩ | ⟨g, cap, rfl, _⟩
  · exact ⟨none, 0, rfl⟩
  · exact ⟨_, cap, rfl⟩
theorem cell_at {w w' : World} {a : Addr} {v : Value} (hb : Below w.heap.size w w') (h : w.cell? a = some v) : w'.cell? a = some v := by
  rw [hb.cell (World.block_lt_of_cell? _ _ h)]; exact h
theorem four_keep {w W : World} {a b c : Addr} {x y z : Value} (h1 : w.cell? a = some x) (h2 : w.cell? b = some y) (h3 : w.cell? c = some z) (hb : Below w.heap.size w W) :
    W.cell? a = some x ∧ W.cell? b = some y ∧ W.cell? c = some z ∧ Below w.heap.size w W := ⟨cell_at hb h1, cell_at hb h2, cell_at hb h3, hb⟩
theorem holds_lt {w : World} {g n cap : Nat} {e : TypeId} {s : Nat} {xs : List Value} (h : w.ownsRow 0 e s (.slice (some ⟨g, 0, none⟩) n cap) n xs) : g < w.heap.size := by
  rcases h.2 with ⟨h2, _⟩ | ⟨g', cap', cur, h3, _, hh, _⟩
  · cases h2
  · simp only [Value.slice.injEq, Option.some.injEq, Addr.mk.injEq] at h3
    obtain ⟨⟨rfl, _⟩, _⟩ := h3
    exact lt_of_heap hh
theorem cl_own {w w' : World} {v' : Value} {L : List D2} (h : Cl w w' v' L) : w'.ownsRow 0 33 2 v' L.length (flat due L) ∧ ∀ g, v'.ownBlock = some g → w.heap.size ≤ g ∧ g < w'.heap.size := by
  rcases h with ⟨rfl, rfl, _⟩ | ⟨g, cap, rfl, hg, hown, _⟩
  · exact ⟨World.ownsRow_nil _ _ _ _, fun g hg => by simp [Value.ownBlock] at hg⟩
  · refine ⟨hown, fun k hk => ?_⟩
    have hlt := (holds_lt hown)
    simp [Value.ownBlock] at hk
    omega
theorem copy_alm {W : World} {A1 : Option Addr} {c1 mb' : Nat} {m : List (Int × Nat)} {last : Int} {L : List D2} (hx : Idx L m) (hown : W.ownsRow 0 33 2 (.slice A1 L.length c1) L.length (flat due L)) (hm : GMap Try.prog 3 ik iok nk W mb' m)
    (hne : ∀ g, (Value.slice A1 L.length c1).ownBlock = some g → g ≠ mb' ∧ g < W.heap.size) :
    Alm (W.alloc (.cells #[.slice A1 L.length c1, .map (some mb'), .int .i64 last] 62)) W.heap.size L last (fun k => k = W.heap.size ∨ k = mb' ∨ (Value.slice A1 L.length c1).ownBlock = some k) := by
  have hlt := hm.lt
  refine ⟨mb', .slice A1 L.length c1, m, ⟨(heap_alloc W _).1, hown.alloc _, hm.alloc _, ⟨.inl rfl, .inr (.inl rfl), fun g hg => ⟨.inr (.inr hg), by have := (hne g hg).2; omega, (hne g hg).1⟩⟩, by omega, fun k hk => ?_⟩, hx⟩
  rcases hk with rfl | rfl | hk
  · simp
  · simp; omega
  · have := (hne k hk).2; simp; omega
/-- The copy of a map. -/
theorem mclone_any (mb : Nat) (m : List (Int × Nat)) (w : World) (h : GMap Try.prog 3 ik iok nk w mb m) :
    Calls Try.prog 41 #[.map (some mb)] w fun e w' => e = .returned (.map (some w.heap.size)) ∧ GMap Try.prog 3 ik iok nk w' w.heap.size m ∧ w'.heap.size = w.heap.size + 1 ∧ Below w.heap.size w w' := by
  have hlt := h.lt
  obtain ⟨es, clock, hb, hrest⟩ := h
  refine (AnyW.maps_Clone Try.mapClone mb es clock w hb).mono ?_
  rintro e w' ⟨rfl, rfl⟩
  exact ⟨rfl, ⟨es, clock, (MapKept.heap_alloc w _).1, hrest⟩, by simp, (Below.refl _ w).alloc (Nat.le_refl _) _⟩

set_option maxRecDepth 100000 in
set_option maxHeartbeats 1600000 in
theorem copy_any (pa : Nat) (L : List D2) (last : Int) (S : Nat → Prop) (w : World) (h : Alm w pa L last S) (hl : L.length ≤ 100000) :
    Calls Try.prog 25 #[.pointer (some ⟨pa, 0, none⟩)] w fun e w' => ∃ pc T, e = .returned (.pointer (some ⟨pc, 0, none⟩)) ∧ Alm w' pc L last T ∧ (∀ k, T k → w.heap.size ≤ k) ∧ Below w.heap.size w w' := by
  obtain ⟨mb, v, m, hw, hx⟩ := h
  obtain ⟨a0, a1, a2, _, _, _⟩ := hw.heads
  have lpa := lt_of_heap hw.box
  have HCL := Lib.hid (fun W (hb : Below w.heap.size w W) => clone_any v L W ((Rd.of_own due_length hw.row).below hb) (by omega))
  have HMC := Lib.hid (fun W (hb : Below w.heap.size w W) => mclone_any mb m W (hw.map.only (S := fun _ => False) (Only.of_below hb) (fun x => x)))
  have HX := Lib.hid hx
  have HB0 := Lib.hid (Below.refl w.heap.size w)
  clear hw hx
  go_enter Try.func25, Try.ntmps25
  go_wp2_with fail
  go_region_held3 (fun W => W.cell? ⟨pa, 0, none⟩ = some v ∧ W.cell? ⟨pa, 1, none⟩ = some (.map (some mb)) ∧ W.cell? ⟨pa, 2, none⟩ = some (.int .i64 last) ∧ Below w.heap.size w W)
    (first
      | exact ⟨a0, a1, a2, (Below.refl _ w).drew⟩
      | exact ⟨cell_at HBQ2.out a0, cell_at HBQ2.out a1, cell_at HBQ2.out a2, HBQ2.out⟩
      | exact ⟨cell_at HBQ1.out a0, cell_at HBQ1.out a1, cell_at HBQ1.out a2, HBQ1.out⟩
      | exact four_keep a0 a1 a2 (HBQ2.out.alloc HBQ2.out.size _)
      | exact four_keep a0 a1 a2 (HBQ1.out.alloc HBQ1.out.size _)
      | go_keep)
    (first
      | (go_at_call 34; obtain ⟨_, _, _, hq⟩ := ‹_ ∧ _ ∧ _ ∧ Below w.heap.size w _›; refine (HCL.out _ hq).mono ?_; rintro e w1 ⟨v1, rfl, hcl⟩; obtain ⟨A1, c1, rfl⟩ := cl_slice hcl; have HC1 := Lib.hid hcl; have HBQ1 := Lib.hid (hq.trans ((cl_below hcl).mono hq.size)); clear hcl hq)
      | (go_at_call 41; obtain ⟨_, _, _, hq⟩ := ‹_ ∧ _ ∧ _ ∧ Below w.heap.size w _›; refine (HMC.out _ hq).mono ?_; rintro e w2 ⟨rfl, hm1, hm2, hm3⟩; have HM1 := Lib.hid hm1; have HM2 := Lib.hid hm2; have HM3 := Lib.hid hm3; have HBQ2 := Lib.hid (hq.trans (hm3.mono hq.size)); clear hm1 hm2 hm3 hq))
  · obtain ⟨ho, hg⟩ := cl_own HC1.out
    have hm2 := HM2.out
    have hal := copy_alm (last := last) HX.out ((Only.of_below HM3.out).own ho (fun _ _ x => x)) HM1.out (fun g h => ⟨by have := (hg g h).2; omega, by have := (hg g h).2; omega⟩)
    have hb := HBQ2.out.alloc HBQ2.out.size (.cells #[.slice A1 L.length c1, .map (some w1.heap.size), .int .i64 last] 62)
    have hs1 := HBQ1.out.size
    have hs2 := HBQ2.out.size
    go_wp2_with fail
    go_ret
    exact ⟨_, _, rfl, hal, fun k hk => by rcases hk with rfl | rfl | hk; exact hs2; exact hs1; exact (hg k hk).1, hb⟩
end Go.Proofs.Ytcnifhkgibopbaa
