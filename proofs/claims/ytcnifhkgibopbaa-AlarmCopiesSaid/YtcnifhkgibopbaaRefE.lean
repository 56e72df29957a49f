/- The document's answer for alarms: Take. -/
import Derived.Test.YtcnifhkgibopbaaRefC
set_option linter.unusedVariables false
set_option linter.unusedSimpArgs false
namespace Go.Proofs.Ytcnifhkgibopbaa
open Go.RowKit Go.MapKept Go.ChangeMaps

theorem Bx.done3 {w : World} {v : Value} {last kind at_ id : Int} {v' vo : Value} {A : Ans} {W : World} (h : Bx w v last kind at_ id v' (.int .i64 A.last) (.int .i64 A.N) (.bool A.is) (.int .i64 A.e) vo W) (h1 : Below w.heap.size w W → Rd due W v' A.L) (h2 : Below w.heap.size w W → Rd due W vo A.out) {u : Value} (o1 : Old w W u v') (o2 : Old w W u vo)
    {tmps : Array Value} {df : List Deferred} (hp : tmps.getD 4 undef = .pointer (some ⟨w.heap.size + 1 + 1, 0, none⟩)) (hp2 : tmps.getD 5 undef = .pointer (some ⟨w.heap.size + 1 + 1 + 1, 0, none⟩)) (hdf : df = []) :
    bodyPost Try.prog Try.f17 (DoPost w u A) Exit.ret { tmps := tmps, defers := df } W := h.done (h1 h.below) (h2 h.below) o1 o2 hp hp2 hdf
theorem rd_whole {w : World} {A : Option Addr} {c : Nat} {L : List D2} (h : Rd due w (.slice A L.length c) L) (c' : Nat) (hc : L.length ≤ c') : Rd due w (.slice A L.length c') L := by
  obtain ⟨A', c2, hv, h1, h2, h3⟩ := h
  simp only [Value.slice.injEq, true_and] at hv
  obtain ⟨rfl, rfl⟩ := hv
  exact ⟨_, _, rfl, hc, h2, h3⟩
theorem rd_zero (w : World) (A : Option Addr) (c : Nat) : Rd due w (.slice A 0 c) [] := ⟨A, c, rfl, by simp, by simp, fun hp => by simp at hp⟩
theorem while_split {p : D2 → Bool} : ∀ (R : List D2) (i : Nat), i ≤ R.length → (∀ j d, j < i → R[j]? = some d → p d = true) → (∀ d, R[i]? = some d → p d = false) → R.takeWhile p = R.take i ∧ R.dropWhile p = R.drop i := by
  intro R
  induction R with
  | nil => intro i hi _ _; simp
  | cons x r ih =>
    intro i hi h1 h2
    cases i with
    | zero =>
      have := h2 x rfl
      simp [this]
    | succ i =>
      have hx := h1 0 x (by omega) rfl
      obtain ⟨e1, e2⟩ := ih i (by simpa using hi) (fun j d hj hd => h1 (j + 1) d (by omega) (by simpa using hd)) (fun d hd => h2 d (by simpa using hd))
      simp [hx, e1, e2]
theorem rd_take {w : World} {b o c : Nat} {L : List D2} (h : Rd due w (.slice (some ⟨b, o, none⟩) L.length c) L) (i : Nat) (hi : i ≤ L.length) : Rd due w (.slice (some ⟨b, o, none⟩) i c) (L.take i) := by
  obtain ⟨A, c', hv, h1, h2, h3⟩ := h
  simp only [Value.slice.injEq, true_and] at hv
  obtain ⟨rfl, rfl⟩ := hv
  have hl : (L.take i).length = i := by rw [List.length_take]; omega
  refine ⟨_, _, by rw [hl], by omega, by omega, fun hp => ⟨b, o, rfl, fun j u hu => ?_⟩⟩
  obtain ⟨b2, o2, e, hc⟩ := h3 (by omega)
  cases e
  have e : flat due L = flat due (L.take i) ++ flat due (L.drop i) := by rw [← flat_append, List.take_append_drop]
  exact hc j u (by rw [e, List.getElem?_append_left (List.getElem?_eq_some_iff.1 hu).1]; exact hu)
theorem rd_drop {w : World} {b o c : Nat} {L : List D2} (h : Rd due w (.slice (some ⟨b, o, none⟩) L.length c) L) (i : Nat) (hi : i ≤ L.length) (A : Option Addr) (hA : c = i ∨ A = some ⟨b, o + i * 2, none⟩) : Rd due w (.slice A (L.length - i) (c - i)) (L.drop i) := by
  obtain ⟨A', c', hv, h1, h2, h3⟩ := h
  simp only [Value.slice.injEq, true_and] at hv
  obtain ⟨rfl, rfl⟩ := hv
  have hl : (L.drop i).length = L.length - i := by rw [List.length_drop]
  refine ⟨_, _, by rw [hl], by omega, by omega, fun hp => ?_⟩
  rcases hA with hA | rfl
  · omega
  refine ⟨b, o + i * 2, rfl, fun j u hu => ?_⟩
  obtain ⟨b2, o2, e, hc⟩ := h3 (by omega)
  cases e
  have e : flat due L = flat due (L.take i) ++ flat due (L.drop i) := by rw [← flat_append, List.take_append_drop]
  have hlt : (flat due (L.take i)).length = i * 2 := by rw [flat_length due_length, List.length_take]; congr 1; omega
  have := hc (i * 2 + j) u (by rw [e, List.getElem?_append_right (by omega), hlt, Nat.add_sub_cancel_left]; exact hu)
  rw [Nat.add_assoc]
  exact this
set_option maxRecDepth 100000 in
set_option maxHeartbeats 1600000 in
theorem do_take (v : Value) (R : List D2) (last at_ id : Int) (w : World) (h : Rd due w v R) (hl : R.length ≤ 1000)  :
    Calls Try.prog 17 #[.agg #[v, .int .i64 last], .agg #[.int .i64 4, .int .i64 at_, .int .i64 id]] w (DoPost w v ⟨R.dropWhile (fun d => decide (d.1 ≤ at_)), last, 0, false, 0, R.takeWhile (fun d => decide (d.1 ≤ at_))⟩) := by
  have hbx := Bx.start w v last 4 at_ id
  have HF := Lib.hid (fun W h => rfind_any v R id W h (by omega))
  have HFI : Hid (findI R id = findI R id) := Lib.hid (by rfl)
  have HH := Lib.hid h
  obtain ⟨A, c, rfl, hlc, hlm, hcell⟩ := h
  go_enter Try.func17, Try.ntmps17
  go_wp2_with fail
  generalize ((((w.alloc (.cells #[.slice A R.length c, .int .i64 last] 47)).alloc (.cells #[.int .i64 4, .int .i64 at_, .int .i64 id] 38)).alloc (.cells #[.slice none 0 0, .int .i64 0] 47)).alloc (.cells #[.int .i64 0, .bool false, .int .i64 0, .slice none 0 0] 41)) = W at hbx ⊢
  refine (HF.out _ (HH.out.below hbx.below)).mono ?_
  rintro e w1 ⟨rfl, rfl⟩
  (try rw [HFI.out])
  have HBX := Lib.hid hbx
  obtain ⟨c0, c1, c2, c3, c4, c5, c6, c7, c8, c9, c10⟩ := hbx.cells
  obtain ⟨f0, f1, f2⟩ := hbx.free
  clear hbx
  go_wp2_with fail
  go_loopw [7] (fun jv wr => ∃ i : Nat, jv = .int .i64 i ∧ i ≤ R.length ∧ (∀ j d, j < i → R[j]? = some d → d.1 ≤ at_) ∧ Bx w (.slice A R.length c) last 4 at_ id (.slice none 0 0) (.int .i64 0) (.int .i64 0) (.bool false) (.int .i64 0) (.slice none 0 0) wr) (fun jv _ => R.length - (intOf jv).toNat)
  case atStart => exact ⟨0, rfl, Nat.zero_le _, fun j d hj => absurd hj (Nat.not_lt_zero _), HBX.out⟩
  case round =>
    obtain ⟨i, rfl, hi, hall, hbr⟩ := hrel
    have HALL := Lib.hid hall
    have HBR := Lib.hid hbr
    clear c0 c1 c2 c3 c4 c5 c6 c7 c8 c9 c10 f0 f1 f2 hall
    obtain ⟨c0, c1, c2, c3, c4, c5, c6, c7, c8, c9, c10⟩ := hbr.cells
    obtain ⟨f0, f1, f2⟩ := hbr.free
    clear hbr
    by_cases hil : i < R.length
    · obtain ⟨d, hd⟩ : ∃ d, R[i]? = some d := ⟨_, List.getElem?_eq_getElem hil⟩
      obtain ⟨b, o, c', hv, e0, e1⟩ := (HH.out.below HBR.out.below).at_ hd
      cases hv
      have hil' : (i : Int) < (R.length : Int) := by omega
      have hi1 : (i : Int) ≤ 1000 := by omega
      have HD := Lib.hid hd
      clear hd hcell
      by_cases hda : d.1 ≤ at_
      · go_wp2_with fail
        go_region
        all_goals
          go_wp2_with fail
          go_roundw
          case rel =>
            refine ⟨i + 1, by go_num, by omega, fun j d' hj hd' => ?_, by first | exact HBR.out.drew | exact HBR.out⟩
            by_cases hji : j = i
            · subst hji
              rw [HD.out] at hd'
              rw [← Option.some.inj hd']
              exact hda
            · exact HALL.out j d' (by omega) hd'
          case measure => simp [intOf]; omega
      · have HDA := Lib.hid hda
        have hdad : decide (d.1 ≤ at_) = false := decide_eq_false hda
        clear hda
        go_wp2_with fail
        go_region
        have SPL := Lib.hid (while_split (p := fun d => decide (d.1 ≤ at_)) R i hi (fun j d' hj hd' => by have := HALL.out j d' hj hd'; simpa using this) (fun d' hd' => by rw [HD.out] at hd'; rw [← Option.some.inj hd']; simpa using HDA.out))
        all_goals
          go_wp2_with fail
          rw [SPL.out.1, SPL.out.2]
          refine Bx.done3 (v := .slice (some ⟨b, o + i * 2, none⟩) (R.length - i) (c - i)) (last := last) (kind := 4) (at_ := at_) (id := id) (A := ⟨R.drop i, last, 0, false, 0, R.take i⟩) (v' := .slice (some ⟨b, o + i * 2, none⟩) (R.length - i) (c - i)) (vo := .slice (some ⟨b, o, none⟩) i c) ?hb (fun hb => rd_drop (HH.out.below hb) i hi _ (.inr rfl)) (fun hb => rd_take (HH.out.below hb) i hi) (fun g hg => .inr (by simpa [Value.ownBlock] using hg)) (fun g hg => .inr (by simpa [Value.ownBlock] using hg)) (by rfl) (by rfl) (by rfl)
          case hb => first | with_reducible exact (((HBR.out.setA _).setR _ _).setQ _ _ _ _).drew | with_reducible exact ((HBR.out.setA _).setR _ _).setQ _ _ _ _ | with_reducible exact ((HBR.out.drew.setA _).setR _ _).setQ _ _ _ _
    · obtain rfl : i = R.length := by omega
      go_wp2_with fail
      go_region
      have SPL := Lib.hid (while_split (p := fun d => decide (d.1 ≤ at_)) R R.length hi (fun j d' hj hd' => by have := HALL.out j d' hj hd'; simpa using this) (fun d' hd' => by rw [List.getElem?_eq_none (Nat.le_refl _)] at hd'; cases hd'))
      rw [List.take_length, List.drop_length] at SPL
      all_goals
        go_wp2_with fail
      all_goals
        rw [SPL.out.1, SPL.out.2]
        refine Bx.done3 (v := ?_) (last := last) (kind := 4) (at_ := at_) (id := id) (A := ⟨[], last, 0, false, 0, R⟩) (v' := ?_) (vo := ?_) ?hb ?h1 ?h2 ?o1 ?o2 (by rfl) (by rfl) (by rfl)
        case hb => first | with_reducible exact (((HBR.out.setA _).setR _ _).setQ _ _ _ _).drew | with_reducible exact ((HBR.out.setA _).setR _ _).setQ _ _ _ _ | with_reducible exact ((HBR.out.drew.setA _).setR _ _).setQ _ _ _ _
        case h1 => exact fun _ => rd_zero _ _ _
        case o1 => exact fun g hg => .inr (by cases A <;> simp [Value.ownBlock, Addr.add] at hg ⊢ <;> (try split at hg) <;> simpa using hg)
        case o2 => exact fun g hg => .inr (by cases A <;> first | (simp [Value.ownBlock] at hg; done) | simpa [Value.ownBlock] using hg)
        case h2 => exact fun hb => rd_whole (HH.out.below hb) _ (by omega)
end Go.Proofs.Ytcnifhkgibopbaa
