/- The walk of sink. -/
import Derived.Test.YtcnifhkgibopbaaAlarmC
set_option linter.unusedVariables false
set_option linter.unusedSimpArgs false
namespace Go.Proofs.Ytcnifhkgibopbaa
open Go.RowKit Go.MapKept Go.ChangeMaps

def SinkJ (pa : Nat) (last : Int) (S : Nat → Prop) (w : World) (R : List D2) (a' : Act) (w' : World) : Prop :=
  ∃ (L' : List D2) (j : Nat) (u2 u3 u4 u5 u6 u7 u8 u9 u10 u11 u12 u13 u14 u15 u16 u17 u18 u19 u20 u21 u22 u23 u24 u25 u26 u27 u28 u29 u30 u31 u32 u33 u34 u35 u36 u37 u38 u39 u40 u41 u42 u43 u44 u45 u46 u47 u48 u49 : Value), a' = { tmps := #[.pointer (some ⟨pa, 0, none⟩), .int .i64 j, u2, u3, u4, u5, u6, u7, u8, u9, u10, u11, u12, u13, u14, u15, u16, u17, u18, u19, u20, u21, u22, u23, u24, u25, u26, u27, u28, u29, u30, u31, u32, u33, u34, u35, u36, u37, u38, u39, u40, u41, u42, u43, u44, u45, u46, u47, u48, u49], defers := [] } ∧ j < L'.length ∧ Alm w' pa L' last S ∧ Only S w w' ∧ sinkL L'.length L' j = R
/-- What the loop over the kids knows. -/
def SinkR (L : List D2) (k : Nat) (w : World) (best kid : Value) (w' : World) : Prop :=
  ∃ (b r : Nat), best = .int .i64 b ∧ kid = .int .i64 r ∧ Below w.heap.size w w' ∧ b < L.length ∧ (r = 2 * k + 1 ∧ b = k ∨ r = 2 * k + 2 ∧ b = bestS L k (2 * k + 1) ∨ r = 2 * k + 3 ∧ b = bestL L k)

set_option maxRecDepth 100000 in
set_option maxHeartbeats 400000 in
theorem sink_any (pa k : Nat) (L : List D2) (last : Int) (S : Nat → Prop) (w : World) (h : Alm w pa L last S) (hk : k < L.length) (k' : Int) (hk' : k' = k) :
    Calls Try.prog 40 #[.pointer (some ⟨pa, 0, none⟩), .int .i64 k'] w fun e w' => e = .returned (.tuple #[]) ∧ Alm w' pa (sinkL L.length L k) last S ∧ Only S w w' := by
  subst hk'
  have HH := Lib.hid h
  have HK := Lib.hid hk
  clear h hk
  go_enter Try.func40, Try.ntmps40
  go_wp2_with fail
  refine wp_scope_back 0 (SinkJ pa last S w (sinkL L.length L k)) (fun a' _ => 4096 - (intOf (a'.tmps.getD 1 undef)).toNat) ?_ ?_
  · exact ⟨L, k, _, _, _, _, _, _, _, _, _, _, _, _, _, _, _, _, _, _, _, _, _, _, _, _, _, _, _, _, _, _, _, _, _, _, _, _, _, _, _, _, _, _, _, _, _, _, _, _, rfl, HK.out, HH.out, Only.refl _ _, rfl⟩
  · rintro a' w' ⟨L', j, u2, u3, u4, u5, u6, u7, u8, u9, u10, u11, u12, u13, u14, u15, u16, u17, u18, u19, u20, u21, u22, u23, u24, u25, u26, u27, u28, u29, u30, u31, u32, u33, u34, u35, u36, u37, u38, u39, u40, u41, u42, u43, u44, u45, u46, u47, u48, u49, rfl, hj, hA, hO, hR⟩
    have hle : L'.length ≤ 4096 := by obtain ⟨_, _, _, _, hx⟩ := hA; exact hx.small
    have HO := Lib.hid hO
    have HR := Lib.hid hR
    have HA' := Lib.hid hA
    obtain ⟨mb, v, m, hr, hx⟩ := hA
    obtain ⟨g, cap, rfl⟩ := hr.form hj
    have hc := hr.lens.2.1
    obtain ⟨a0, _, _, _, _, _⟩ := hr.heads
    have HC := Lib.hid (fun (i : Nat) (hi : i < L'.length) => hr.cells (List.getElem?_eq_getElem hi))
    clear hO hR hr hx
    go_wp2_with fail
    go_loopw [4, 5] (fun best kid wr => SinkR L' j w' best kid wr) (fun _ kid _ => 2 * j + 3 - (intOf kid).toNat)
    case atStart => exact ⟨j, 2 * j + 1, rfl, by go_num, Below.refl _ _, hj, .inl ⟨rfl, rfl⟩⟩
    case round =>
      obtain ⟨b, r, rfl, rfl, hB, hb, hrr⟩ := hrel
      have hbr : r ≤ 2 * j + 3 ∧ 2 * j + 1 ≤ r := by omega
      have HRR := Lib.hid hrr
      have HB := Lib.hid hB
      have a0' := cell_later hB a0
      clear hrr a0
      by_cases hin : r ≤ 2 * j + 2 ∧ r < L'.length
      · obtain ⟨q1, q2⟩ := hin
        obtain ⟨c0, c1, _, _⟩ := HC.out r q2
        obtain ⟨d0, d1, _, _⟩ := HC.out b hb
        replace c0 := cell_later hB c0
        replace c1 := cell_later hB c1
        replace d0 := cell_later hB d0
        replace d1 := cell_later hB d1
        clear hB
        have g0 : (0 : Int) ≤ (r : Int) := by omega
        have g1 : (r : Int) < (L'.length : Int) := by omega
        have g2 : (0 : Int) ≤ (b : Int) := by omega
        have g3 : (b : Int) < (L'.length : Int) := by omega
        have g4 : (r : Int) ≤ 2 * (j : Int) + 2 := by omega
        cases hA : aheadB L'[r] L'[b]
        all_goals
          have HA := Lib.hid hA
          clear hA
          go_wp2_with fail
          go_region_held3 (fun W => W.cell? ⟨pa, 0, none⟩ = some (.slice (some ⟨g, 0, none⟩) L'.length cap) ∧ W.cell? ⟨g, r * 2, none⟩ = some (.int .i64 L'[r].fst) ∧ W.cell? ⟨g, r * 2 + 1, none⟩ = some (.int .i64 L'[r].snd) ∧
              W.cell? ⟨g, b * 2, none⟩ = some (.int .i64 L'[b].fst) ∧ W.cell? ⟨g, b * 2 + 1, none⟩ = some (.int .i64 L'[b].snd))
            (first | go_keep | exact ⟨cell_later hb1 a0', cell_later hb1 c0, cell_later hb1 c1, cell_later hb1 d0, cell_later hb1 d1⟩)
            (first | (go_at_call 39; refine (ahead_is L'[r] L'[b] _ HA.out _).mono ?_; rintro e W1 ⟨rfl, hb1⟩))
          go_wp2_with fail
          go_roundw
          case measure => simp [intOf]; omega
        · have hrr := HRR.out
          have hs := bestS_no q2 hb HA.out
          refine ⟨b, r + 1, rfl, by go_num, HB.out.trans ((below_of_drew hb1).mono HB.out.size), hb, ?_⟩
          rcases hrr with ⟨h1, h2⟩ | ⟨h1, h2⟩ | ⟨h1, h2⟩
          · rw [h1, h2] at hs
            exact .inr (.inl ⟨by omega, by rw [hs, h2]⟩)
          · rw [h1, h2] at hs
            exact .inr (.inr ⟨by omega, by rw [h2]; unfold bestL; rw [hs]⟩)
          · omega
        · have hrr := HRR.out
          have hs := bestS_yes q2 hb HA.out
          refine ⟨r, r + 1, rfl, by go_num, HB.out.trans ((below_of_drew hb1).mono HB.out.size), q2, ?_⟩
          rcases hrr with ⟨h1, h2⟩ | ⟨h1, h2⟩ | ⟨h1, h2⟩
          · rw [h1, h2] at hs
            exact .inr (.inl ⟨by omega, by rw [hs, h1]⟩)
          · rw [h1, h2] at hs
            exact .inr (.inr ⟨by omega, by rw [h1]; unfold bestL; rw [hs]⟩)
          · omega
      · have hbest : b = bestL L' j := by
          rcases HRR.out with ⟨h1, h2⟩ | ⟨h1, h2⟩ | ⟨h1, h2⟩
          · unfold bestL
            rw [bestS_ge (kid := 2 * j + 1) (by omega), bestS_ge (by omega)]; exact h2
          · unfold bestL
            rw [bestS_ge (kid := 2 * j + 2) (by omega)]; exact h2
          · exact h2
        have HBE := Lib.hid hbest
        clear hbest
        by_cases hbj : b = j
        · have hne : ((b : Int) != (j : Int)) = false := by simp [hbj]
          have HBJ := Lib.hid hbj
          clear hbj
          go_wp2_with fail
          all_goals
            simp only [Exit.jump]
            go_end0
            have hR := HR.out
            refine ⟨rfl, ?_, HO.out.then_ (Only.of_below HB.out)⟩
            have h1 : sinkL L'.length L' j = L' := by
              obtain ⟨f, hf⟩ : ∃ f, L'.length = f + 1 := ⟨L'.length - 1, by omega⟩
              rw [hf, sinkL, if_pos (by rw [← HBE.out]; exact HBJ.out)]
            rw [← hR, h1]
            exact HA'.out.below HB.out
        · have hne : ((b : Int) != (j : Int)) = true := by simp; omega
          have HBJ := Lib.hid hbj
          clear hbj
          go_wp2_with fail
          all_goals
            refine ((HA'.out.below HB.out).swap hj hb _ _ rfl rfl).mono ?_
            rintro e w2 ⟨rfl, h2, ho2⟩
            go_wp2_with fail
            go_step3
            have hR := HR.out
            have hgt := bestL_gt (L := L') (k := j) (by rw [← HBE.out]; exact HBJ.out)
            have h1 : sinkL (swapL L' j b).length (swapL L' j b) b = sinkL L.length L k := by
              rw [← hR]
              obtain ⟨f, hf⟩ : ∃ f, L'.length = f + 1 := ⟨L'.length - 1, by omega⟩
              conv => rhs; rw [hf, sinkL, if_neg (by rw [← HBE.out]; exact HBJ.out), ← HBE.out]
              have := HBE.out
              exact sinkL_more (by rw [swapL_length]; exact hb) (by omega) (by rw [swapL_length]; omega)
            exact ⟨rfl, ⟨swapL L' j b, b, _, _, _, _, _, _, _, _, _, _, _, _, _, _, _, _, _, _, _, _, _, _, _, _, _, _, _, _, _, _, _, _, _, _, _, _, _, _, _, _, _, _, _, _, _, _, _, _, rfl, by rw [swapL_length]; exact hb, h2, (HO.out.then_ (Only.of_below HB.out)).then_ ho2, h1⟩, by have := HBE.out; simp [intOf]; omega⟩
end Go.Proofs.Ytcnifhkgibopbaa
