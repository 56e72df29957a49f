/- The walks of rise and sink. -/
import Derived.Test.YtcnifhkgibopbaaAlarmB
set_option linter.unusedVariables false
set_option linter.unusedSimpArgs false
namespace Go.Proofs.Ytcnifhkgibopbaa
open Go.RowKit Go.MapKept Go.ChangeMaps

/-- Alarms that are as they must be. -/
def Alm (w : World) (pa : Nat) (L : List D2) (last : Int) (S : Nat → Prop) : Prop := ∃ mb v m, AlmRaw w pa mb v L m last S ∧ Idx L m
theorem AlmRaw.form {w : World} {pa mb : Nat} {v : Value} {L : List (Int × Int)} {m : List (Int × Nat)} {last : Int} {S : Nat → Prop} (h : AlmRaw w pa mb v L m last S) {k : Nat} (hk : k < L.length) : ∃ g cap, v = .slice (some ⟨g, 0, none⟩) L.length cap := by
  rcases h.row.2 with ⟨_, h0⟩ | ⟨g, cap, cur, rfl, _⟩
  · omega
  · exact ⟨g, cap, rfl⟩

theorem Alm.swap {pa : Nat} {L : List D2} {last : Int} {S : Nat → Prop} {w : World} (h : Alm w pa L last S) {i k : Nat} (hi : i < L.length) (hk : k < L.length) (i' k' : Int) (hi' : i' = i) (hk' : k' = k) :
    Calls Try.prog 42 #[.pointer (some ⟨pa, 0, none⟩), .int .i64 i', .int .i64 k'] w fun e w' => e = .returned (.tuple #[]) ∧ Alm w' pa (swapL L i k) last S ∧ Only S w w' := by
  obtain ⟨mb, v, m, hr, hx⟩ := h
  obtain ⟨g, cap, rfl⟩ := hr.form hi
  rw [swapL_eq hi hk]
  refine (swap_any pa mb g cap i k L m last S w hr hi hk hx.ok i' k' hi' hk').mono fun e w' ⟨he, h1, ho⟩ => ⟨he, ⟨mb, .slice (some ⟨g, 0, none⟩) L.length cap, mput (mput m L[k].2 i) L[i].2 k, h1, ?_⟩, ho⟩
  rw [← swapL_eq hi hk]
  exact hx.swap hi hk

theorem ahead_is (a b : Int × Int) (v : Bool) (hv : aheadB a b = v) (w : World) :
    Calls Try.prog 39 #[.agg #[.int .i64 a.1, .int .i64 a.2], .agg #[.int .i64 b.1, .int .i64 b.2]] w fun e w' => e = .returned (.bool v) ∧ Below w.heap.size w w' := by
  subst hv
  exact ahead_any a b w
theorem Alm.other {w w' : World} {pa : Nat} {L : List D2} {last : Int} {S S' : Nat → Prop} (h : Alm w pa L last S) (ho : Only S' w w') (hd : ∀ k, S k → ¬ S' k) : Alm w' pa L last S := by
  obtain ⟨mb, v, m, hr, hx⟩ := h
  exact ⟨mb, v, m, hr.other ho hd, hx⟩
theorem Alm.below {w w' : World} {pa : Nat} {L : List D2} {last : Int} {S : Nat → Prop} (h : Alm w pa L last S) (hb : Below w.heap.size w w') : Alm w' pa L last S :=
  h.other (S' := fun _ => False) (Only.of_below hb) fun _ _ x => x
theorem below_of_drew {w w' : World} (hb : Below w.drew.heap.size w.drew w') : Below w.heap.size w w' := ⟨hb.os, hb.tape, hb.output, hb.size, hb.block⟩
theorem Alm.len_le {w : World} {pa : Nat} {L : List D2} {last : Int} {S : Nat → Prop} (h : Alm w pa L last S) : L.length ≤ 9223372036854775807 := by
  obtain ⟨mb, v, m, hr, hx⟩ := h
  rcases hr.row.2 with ⟨_, h0⟩ | ⟨g, cap, cur, rfl, _, _, h1, h2, _⟩
  · omega
  · unfold maxLen at h2; omega

def RiseJ (pa : Nat) (last : Int) (S : Nat → Prop) (w : World) (R : List D2) (a' : Act) (w' : World) : Prop :=
  ∃ (L' : List D2) (j : Nat) (u2 u3 u4 u5 u6 u7 u8 u9 u10 u11 u12 u13 u14 u15 u16 u17 u18 u19 u20 u21 u22 u23 u24 u25 u26 u27 u28 u29 u30 u31 : Value), a' = { tmps := #[.pointer (some ⟨pa, 0, none⟩), .int .i64 j, u2, u3, u4, u5, u6, u7, u8, u9, u10, u11, u12, u13, u14, u15, u16, u17, u18, u19, u20, u21, u22, u23, u24, u25, u26, u27, u28, u29, u30, u31], defers := [] } ∧ j < L'.length ∧ Alm w' pa L' last S ∧ Only S w w' ∧ riseL j L' j = R

set_option maxRecDepth 100000 in
set_option maxHeartbeats 400000 in
theorem rise_any (pa k : Nat) (L : List D2) (last : Int) (S : Nat → Prop) (w : World) (h : Alm w pa L last S) (hk : k < L.length) (k' : Int) (hk' : k' = k) :
    Calls Try.prog 28 #[.pointer (some ⟨pa, 0, none⟩), .int .i64 k'] w fun e w' => e = .returned (.tuple #[]) ∧ Alm w' pa (riseL k L k) last S ∧ Only S w w' := by
  subst hk'
  have HH := Lib.hid h
  have HK := Lib.hid hk
  clear h hk
  go_enter Try.func28, Try.ntmps28
  go_wp2_with fail
  refine wp_scope_back 0 (RiseJ pa last S w (riseL k L k)) (fun a' _ => (intOf (a'.tmps.getD 1 undef)).toNat) ?_ ?_
  · exact ⟨L, k, _, _, _, _, _, _, _, _, _, _, _, _, _, _, _, _, _, _, _, _, _, _, _, _, _, _, _, _, _, _, rfl, HK.out, HH.out, Only.refl _ _, rfl⟩
  · rintro a' w' ⟨L', j, u2, u3, u4, u5, u6, u7, u8, u9, u10, u11, u12, u13, u14, u15, u16, u17, u18, u19, u20, u21, u22, u23, u24, u25, u26, u27, u28, u29, u30, u31, rfl, hj, hA, hO, hR⟩
    have hle := hA.len_le
    have HO := Lib.hid hO
    have HR := Lib.hid hR
    have HA' := Lib.hid hA
    obtain ⟨mb, v, m, hr, hx⟩ := hA
    obtain ⟨g, cap, rfl⟩ := hr.form hj
    have hc := hr.lens.2.1
    obtain ⟨a0, _, _, _, _, _⟩ := hr.heads
    by_cases h0 : 0 < j
    · obtain ⟨i, hi0⟩ : ∃ i, j = i + 1 := ⟨j - 1, by omega⟩
      obtain ⟨p, hp⟩ : ∃ p, p = i / 2 := ⟨_, rfl⟩
      have hi : p < L'.length := by omega
      obtain ⟨c0, c1, _, _⟩ := hr.cells (List.getElem?_eq_getElem hj)
      obtain ⟨d0, d1, _, _⟩ := hr.cells (List.getElem?_eq_getElem hi)
      clear hO hR hr hx
      have g0 : (0 : Int) ≤ (j : Int) := by omega
      have g1 : (j : Int) < (L'.length : Int) := by omega
      have e3 : (j : Int) - 1 = (i : Int) := by omega
      have g2 : (0 : Int) ≤ (p : Int) := by omega
      have g3 : (p : Int) < (L'.length : Int) := by omega
      have e4 : (i : Int) / 2 = (p : Int) := by omega
      have HP := Lib.hid (And.intro hi0 hp)
      clear hp hi0
      cases hA : aheadB L'[j] L'[p]
      all_goals
        have HA := Lib.hid hA
        clear hA
        go_wp2_with fail
        go_region_held3 (fun W => W.cell? ⟨pa, 0, none⟩ = some (.slice (some ⟨g, 0, none⟩) L'.length cap) ∧ W.cell? ⟨g, j * 2, none⟩ = some (.int .i64 L'[j].fst) ∧ W.cell? ⟨g, j * 2 + 1, none⟩ = some (.int .i64 L'[j].snd) ∧
            W.cell? ⟨g, p * 2, none⟩ = some (.int .i64 L'[p].fst) ∧ W.cell? ⟨g, p * 2 + 1, none⟩ = some (.int .i64 L'[p].snd))
          (first | go_keep | exact ⟨cell_later hb1 a0, cell_later hb1 c0, cell_later hb1 c1, cell_later hb1 d0, cell_later hb1 d1⟩)
          (first | (go_at_call 39; refine (ahead_is L'[j] L'[p] _ HA.out _).mono ?_; rintro e W1 ⟨rfl, hb1⟩))
      · go_wp2_with fail
        simp only [Exit.jump]
        go_end0
        have hR := HR.out
        have h1 : riseL j L' j = L' := by
          obtain ⟨q1, q2⟩ := HP.out
          subst q1
          rw [riseL, getD_lt hj, show (i + 1 - 1) / 2 = p by omega, getD_lt hi, HA.out]
          simp
        rw [← hR, h1]
        exact ⟨rfl, HA'.out.below (below_of_drew hb1), HO.out.then_ (Only.of_below (below_of_drew hb1))⟩
      · go_wp2_with fail
        refine ((HA'.out.below (below_of_drew hb1)).swap hj hi _ _ rfl rfl).mono ?_
        rintro e w2 ⟨rfl, h2, ho2⟩
        go_wp2_with fail
        go_step3
        have hR := HR.out
        obtain ⟨q1, q2⟩ := HP.out
        have h1 : riseL p (swapL L' j p) p = riseL k L k := by
          rw [← hR]
          obtain ⟨f, hf⟩ : ∃ f, j = f + 1 := ⟨i, q1⟩
          rw [riseL_more (f := p) (f' := f) (by omega) (by omega)]
          conv => rhs; rw [hf]
          rw [riseL, ← hf, getD_lt hj, show (j - 1) / 2 = p by omega, getD_lt hi, HA.out]
          simp only [h0, decide_true, Bool.and_self, if_true]
        exact ⟨rfl, ⟨swapL L' j p, p, _, _, _, _, _, _, _, _, _, _, _, _, _, _, _, _, _, _, _, _, _, _, _, _, _, _, _, _, _, _, rfl, by rw [swapL_length]; exact hi, h2, (HO.out.then_ (Only.of_below (below_of_drew hb1))).then_ ho2, h1⟩, by simp [intOf]; omega⟩
    · go_wp2_with fail
      go_quiet (fail)
      go_wp2_with fail
      simp only [Exit.jump]
      go_end0
      have hR := HR.out
      obtain rfl : j = 0 := by omega
      rw [← hR]
      exact ⟨rfl, HA'.out.below (below_drewN (Below.refl _ _) _), HO.out.then_ (Only.of_below (below_drewN (Below.refl _ _) _))⟩
end Go.Proofs.Ytcnifhkgibopbaa
