/- The document's answer for alarms: Move and Take. -/
import Derived.Test.YtcnifhkgibopbaaRefC
set_option linter.unusedVariables false
set_option linter.unusedSimpArgs false
namespace Go.Proofs.Ytcnifhkgibopbaa
open Go.RowKit Go.MapKept Go.ChangeMaps

set_option maxRecDepth 100000 in
set_option maxHeartbeats 1600000 in
theorem do_mov_yes (v : Value) (R : List D2) (last at_ id : Int) (w : World) (h : Rd due w v R) (hl : R.length ≤ 1000) (k : Nat) (hf : findL R id = some k) (hk : k < R.length) (hr : (decide (0 ≤ at_) && decide (at_ ≤ 1099511627776)) = true) :
    Calls Try.prog 17 #[.agg #[v, .int .i64 last], .agg #[.int .i64 2, .int .i64 at_, .int .i64 id]] w (DoPost w v ⟨putL (R.eraseIdx k) (at_, id), last, 0, true, 0, []⟩) := by
  have hbx := Bx.start w v last 2 at_ id
  have HF := Lib.hid (fun W h => rfind_any v R id W h (by omega))
  have HFI : Hid (findI R id = k) := Lib.hid (by unfold findI; rw [hf])
  have HH := Lib.hid h
  obtain ⟨A, c, rfl, hlc, hlm, hcell⟩ := h
  go_enter Try.func17, Try.ntmps17
  go_wp2_with fail
  generalize ((((w.alloc (.cells #[.slice A R.length c, .int .i64 last] 47)).alloc (.cells #[.int .i64 2, .int .i64 at_, .int .i64 id] 38)).alloc (.cells #[.slice none 0 0, .int .i64 0] 47)).alloc (.cells #[.int .i64 0, .bool false, .int .i64 0, .slice none 0 0] 41)) = W at hbx ⊢
  refine (HF.out _ (HH.out.below hbx.below)).mono ?_
  rintro e w1 ⟨rfl, rfl⟩
  (try rw [HFI.out])
  have HBX := Lib.hid hbx
  obtain ⟨c0, c1, c2, c3, c4, c5, c6, c7, c8, c9, c10⟩ := hbx.cells
  obtain ⟨f0, f1, f2⟩ := hbx.free
  clear hbx
  clear hcell hlc hlm
  have kk : ¬ (k : Int) < 0 := by omega
  have HWO := Lib.hid (fun W' hb => without_any (.slice A R.length c) R k W' (HH.out.below hb) (by omega) hk)
  have hle : (R.eraseIdx k).length ≤ 1000 := by rw [List.length_eraseIdx]; split <;> omega
  have HPU := Lib.hid (fun v W' h => put_any v (R.eraseIdx k) (at_, id) W' h (by omega))
  clear hle
  go_wp2_with (first | (go_at_call 31; refine (rright_any _ _).mono ?_; rintro e w2 ⟨rfl, rfl⟩; rw [hr]) | fail)
  go_region_with (first
    | (go_at_call 33; refine (HWO.out _ (by first | exact HBX.out.below | exact HBX.out.below.drew)).mono ?_; rintro e w2 ⟨v2, rfl, hr2, hf2, hb2⟩; have HF2 := Lib.hid hf2; clear hf2; have hbx2 := HBX.out.drew.later hb2; have HBX2 := Lib.hid hbx2; have HR2 := Lib.hid hr2; obtain ⟨A2, cc2, rfl, -, -, -⟩ := hr2; clear c0 c1 c2 c3 c4 c5 c6 c7 c8 c9 c10 f0 f1 f2 hb2; obtain ⟨c0, c1, c2, c3, c4, c5, c6, c7, c8, c9, c10⟩ := hbx2.cells; obtain ⟨f0, f1, f2⟩ := hbx2.free; clear hbx2)
    | (go_at_call 32; refine (HPU.out _ _ HR2.out).mono ?_; rintro e w3 ⟨v3, rfl, hr3, hf3, hb3⟩; have HF3 := Lib.hid hf3; clear hf3; have hbx3 := HBX2.out.later hb3; have HBX3 := Lib.hid hbx3; have HR3 := Lib.hid hr3; obtain ⟨A3, cc3, rfl, -, -, -⟩ := hr3; clear c0 c1 c2 c3 c4 c5 c6 c7 c8 c9 c10 f0 f1 f2 hb3; obtain ⟨c0, c1, c2, c3, c4, c5, c6, c7, c8, c9, c10⟩ := hbx3.cells; obtain ⟨f0, f1, f2⟩ := hbx3.free; clear hbx3))
  all_goals
    have HBX4 := Lib.hid (HBX3.out.setA (.slice A3 (putL (R.eraseIdx k) (at_, id)).length cc3))
    have HR4 : Hid (Rd due (w3.setCell ⟨w.heap.size, 0, none⟩ (.slice A3 (putL (R.eraseIdx k) (at_, id)).length cc3)) (.slice A3 (putL (R.eraseIdx k) (at_, id)).length cc3) (putL (R.eraseIdx k) (at_, id))) := Lib.hid (by
      refine Rd.only (S := fun k => w.heap.size ≤ k ∧ k < w.heap.size + 4) HR3.out ?_ (fun g hg hs => by have := HF3.out g hg; have := lt_of_heap HBX2.out.q; omega)
      repeat (first | with_reducible exact Only.refl _ _ | with_reducible refine Only.setCell ?_ (.inl (by simp; try omega)) _ | with_reducible refine Only.drew ?_))
    have HFF := Lib.hid (fun g (hg : (Value.slice A3 (putL (R.eraseIdx k) (at_, id)).length cc3).ownBlock = some g) (hs : w.heap.size ≤ g ∧ g < w.heap.size + 4) => (by have := HF3.out g hg; have := lt_of_heap HBX2.out.q; omega : False))
    have HSZ : Hid (∀ g, (Value.slice A3 (putL (R.eraseIdx k) (at_, id)).length cc3).ownBlock = some g → g < (w3.setCell ⟨w.heap.size, 0, none⟩ (.slice A3 (putL (R.eraseIdx k) (at_, id)).length cc3)).heap.size) := Lib.hid (fun g hg => by simpa using (HF3.out g hg).2)
    generalize w3.setCell ⟨w.heap.size, 0, none⟩ (.slice A3 (putL (R.eraseIdx k) (at_, id)).length cc3) = W4 at HBX4 HR4 HSZ ⊢
    clear c0 c1 c2 c3 c4 c5 c6 c7 c8 c9 c10 f0 f1 f2
    obtain ⟨c0, c1, c2, c3, c4, c5, c6, c7, c8, c9, c10⟩ := HBX4.out.cells
    obtain ⟨f0, f1, f2⟩ := HBX4.out.free
    go_wp2_with fail
    refine Bx.done2 (v := .slice A3 (putL (R.eraseIdx k) (at_, id)).length cc3) (last := last) (kind := 2) (at_ := at_) (id := id) (A := ⟨putL (R.eraseIdx k) (at_, id), last, 0, true, 0, []⟩) (v' := .slice A3 (putL (R.eraseIdx k) (at_, id)).length cc3) (vo := .slice none 0 0) ?hb ?h1 (rd_nil _) (fun g hg => .inl (by have h1 := HF3.out g hg; have h2 := HBX2.out.below.size; exact ⟨by omega, by simpa using HSZ.out g hg⟩)) (Old.nil _ _ _) (by rfl) (by rfl) (by rfl)
    case hb => with_reducible exact (HBX4.out.setR _ _).setQ _ _ _ _
    case h1 =>
      intro _
      refine Rd.only (S := fun k => w.heap.size ≤ k ∧ k < w.heap.size + 4) HR4.out ?_ HFF.out
      repeat (first | with_reducible exact Only.refl _ _ | with_reducible refine Only.setCell ?_ (.inl (by simp; try omega)) _ | with_reducible refine Only.drew ?_)
end Go.Proofs.Ytcnifhkgibopbaa
