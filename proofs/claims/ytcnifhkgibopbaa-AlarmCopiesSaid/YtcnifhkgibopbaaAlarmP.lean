/- Check: a heap is told to be one. -/
import Derived.Test.YtcnifhkgibopbaaAlarmL
set_option linter.unusedVariables false
set_option linter.unusedSimpArgs false
namespace Go.Proofs.Ytcnifhkgibopbaa
open Go.RowKit Go.MapKept Go.ChangeMaps

/-- What Check's loop knows. -/
def CheckR (w : World) (n : Nat) (jv : Value) (wr : World) : Prop := ∃ j : Nat, jv = .int .i64 j ∧ j ≤ n ∧ Below w.heap.size w wr
theorem find_self {L : List D2} {m : List (Int × Nat)} (h : Idx L m) {j : Nat} {d : D2} (hj : L[j]? = some d) : findL L d.2 = some j := by
  rw [← h.find]
  exact (h.get d.2 j).2 ⟨d, hj, rfl⟩

set_option maxRecDepth 100000 in
set_option maxHeartbeats 1600000 in
theorem check_any (pa : Nat) (L : List D2) (last : Int) (S : Nat → Prop) (w : World) (h : Alm w pa L last S) (hh : Heap L) :
    Calls Try.prog 21 #[.pointer (some ⟨pa, 0, none⟩)] w fun e w' => e = .returned (.bool true) ∧ Below w.heap.size w w' := by
  cases hL : L with
  | nil => subst hL; exact check_nil pa last S w h
  | cons d0 r0 =>
    have hpos : 0 < L.length := by rw [hL]; simp
    clear hL
    obtain ⟨mb, v, m, hw, hx⟩ := h
    obtain ⟨g, cap, rfl⟩ := hw.form hpos
    obtain ⟨a0, _, _, _, _, _⟩ := hw.heads
    have HW := Lib.hid hw
    have HX := Lib.hid hx
    have HH := Lib.hid hh
    have hsm := hx.small
    have lpa := lt_of_heap hw.box
    have lg := hw.low g (hw.inS.2.2 g rfl).1
    clear hw hx hh
    go_enter Try.func21, Try.ntmps21
    go_wp2_with fail
    go_loopw [12] (fun jv wr => CheckR w L.length jv wr) (fun jv _ => L.length - (intOf jv).toNat)
    case atStart => exact ⟨0, rfl, Nat.zero_le _, Below.refl _ w⟩
    case round =>
      obtain ⟨j, rfl, hj, hb⟩ := hrel
      have HB := Lib.hid hb
      clear hb
      have HR := Lib.hid (HW.out.other (S' := fun _ => False) (Only.of_below HB.out) fun _ _ x => x)
      by_cases hjl : j < L.length
      · rcases Nat.eq_zero_or_pos j with h00 | hj0
        · subst h00
          rw [show ((0 : Nat) : Int) = 0 from rfl]
          obtain ⟨d, hd⟩ : ∃ d, L[0]? = some d := ⟨_, List.getElem?_eq_getElem hjl⟩
          have q1 : (0 : Int) < (L.length : Int) := by omega
          obtain ⟨c0, c1, _, _⟩ := HR.out.cells hd
          have HD := Lib.hid hd
          clear hd
          go_wp2_with fail
          have ha1 := HR.out.alloc (Obj.cells #[Value.int IntKind.i64 d.fst, Value.int IntKind.i64 d.snd] 33)
          have hz := heap_alloc wr (Obj.cells #[Value.int IntKind.i64 d.fst, Value.int IntKind.i64 d.snd] 33)
          have b0 := cell_of_cells hz.1 0
          have b1 := cell_of_cells hz.1 1
          have hb1 := HB.out.alloc HB.out.size (Obj.cells #[Value.int IntKind.i64 d.fst, Value.int IntKind.i64 d.snd] 33)
          simp only [List.getElem?_toArray, List.getElem?_cons_zero, List.getElem?_cons_succ] at b0 b1
          generalize wr.alloc (Obj.cells #[Value.int IntKind.i64 d.fst, Value.int IntKind.i64 d.snd] 33) = W1 at ha1 b0 b1 hb1 ⊢
          clear hz
          generalize wr.heap.size = B at b0 b1 ⊢
          have hok : iok d.2 := HX.out.ok d (List.mem_of_getElem? HD.out)
          have hrun : ∀ W', W'.heap = W1.heap → (Instr.lookup 60 (.map (some mb)) (.int .i64 d.2) true).run Try.prog W' = .ok (.tuple #[.int .i64 0, .bool true]) W' := by
            intro W' hW'
            have hm : GMap Try.prog 3 ik iok nk W' mb m := ha1.map.of_block (by rw [hW'])
            have := hm.lookup (int_like Try.underlying3) Try.underlying60 (zero_int W') d.2 hok true
            rw [HX.out.find, find_self HX.out HD.out] at this
            simpa [ik, nk] using this
          have r1 := hrun W1 rfl
          have r2 := hrun W1.drew rfl
          have HA1 := Lib.hid ha1
          have HB1 := Lib.hid hb1
          obtain ⟨h0, h1, _, _, _, _⟩ := ha1.heads
          clear hrun hok ha1 hb1 c0 c1
          go_region
          go_wp2_with fail
          skip
          clear r1 r2 h1
          go_region
          all_goals
            go_wp2_with fail
            go_roundw
            case measure => simp [intOf]; omega
            · exact ⟨1, by simp, by omega, by first | exact HB1.out.drew.drew | exact HB1.out.drew⟩
        · have hj13 : (j : Int) ≤ 4096 := by omega
          obtain ⟨d, hd⟩ : ∃ d, L[j]? = some d := ⟨_, List.getElem?_eq_getElem hjl⟩
          have q1 : (j : Int) < (L.length : Int) := by omega
          obtain ⟨c0, c1, _, _⟩ := HR.out.cells hd
          have HD := Lib.hid hd
          clear hd
          go_wp2_with fail
          have ha1 := HR.out.alloc (Obj.cells #[Value.int IntKind.i64 d.fst, Value.int IntKind.i64 d.snd] 33)
          have hz := heap_alloc wr (Obj.cells #[Value.int IntKind.i64 d.fst, Value.int IntKind.i64 d.snd] 33)
          have b0 := cell_of_cells hz.1 0
          have b1 := cell_of_cells hz.1 1
          have hb1 := HB.out.alloc HB.out.size (Obj.cells #[Value.int IntKind.i64 d.fst, Value.int IntKind.i64 d.snd] 33)
          simp only [List.getElem?_toArray, List.getElem?_cons_zero, List.getElem?_cons_succ] at b0 b1
          generalize wr.alloc (Obj.cells #[Value.int IntKind.i64 d.fst, Value.int IntKind.i64 d.snd] 33) = W1 at ha1 b0 b1 hb1 ⊢
          clear hz
          generalize wr.heap.size = B at b0 b1 ⊢
          have hok : iok d.2 := HX.out.ok d (List.mem_of_getElem? HD.out)
          have hrun : ∀ W', W'.heap = W1.heap → (Instr.lookup 60 (.map (some mb)) (.int .i64 d.2) true).run Try.prog W' = .ok (.tuple #[.int .i64 j, .bool true]) W' := by
            intro W' hW'
            have hm : GMap Try.prog 3 ik iok nk W' mb m := ha1.map.of_block (by rw [hW'])
            have := hm.lookup (int_like Try.underlying3) Try.underlying60 (zero_int W') d.2 hok true
            rw [HX.out.find, find_self HX.out HD.out] at this
            simpa [ik, nk] using this
          have r1 := hrun W1 rfl
          have r2 := hrun W1.drew rfl
          have HA1 := Lib.hid ha1
          have HB1 := Lib.hid hb1
          obtain ⟨h0, h1, _, _, _, _⟩ := ha1.heads
          clear hrun hok ha1 hb1 c0 c1
          go_region
          go_wp2_with fail
          obtain ⟨i, hi0⟩ : ∃ i, j = i + 1 := ⟨j - 1, by omega⟩
          obtain ⟨p, hp⟩ : ∃ p, p = i / 2 := ⟨_, rfl⟩
          have hi : p < L.length := by omega
          obtain ⟨dp, hdp⟩ : ∃ dp, L[p]? = some dp := ⟨_, List.getElem?_eq_getElem hi⟩
          obtain ⟨c0, c1, _, _⟩ := HA1.out.cells hdp
          have hle : aheadB d dp = false := by
            rw [ahead_false]
            have := HH.out j hj0 hjl
            have e1 : fn L j = d := by unfold fn; rw [List.getD_eq_getElem?_getD, HD.out]; rfl
            have e2 : fn L ((j - 1) / 2) = dp := by rw [show (j - 1) / 2 = p by omega]; unfold fn; rw [List.getD_eq_getElem?_getD, hdp]; rfl
            rw [e1, e2] at this
            exact this
          have HLE := Lib.hid hle
          have g0 : (0 : Int) ≤ (j : Int) := by omega
          have e3 : (j : Int) - 1 = (i : Int) := by omega
          have g2 : (0 : Int) ≤ (p : Int) := by omega
          have g3 : (p : Int) < (L.length : Int) := by omega
          have e4 : (i : Int) / 2 = (p : Int) := by omega
          have e5 : Int.tdiv (i : Int) 2 = (p : Int) := by rw [Int.tdiv_eq_ediv_of_nonneg (by omega)]; exact e4
          have ewi : IntKind.i64.wrap (i : Int) = (i : Int) := IntWalk.i64_in _ (by omega)
          have ewp : IntKind.i64.wrap (p : Int) = (p : Int) := IntWalk.i64_in _ (by omega)
          have ewq : IntKind.i64.wrap ((i : Int) / 2) = (p : Int) := by rw [e4]; exact ewp
          have ewr : IntKind.i64.wrap ((j : Int) - 1) = (i : Int) := by rw [e3]; exact ewi
          have e6 : Int.tdiv ((j : Int) - 1) 2 = (p : Int) := by rw [e3]; exact e5
          clear hi0 hp hdp hle r1 r2 h1
          go_region_held3 (fun W => W.cell? ⟨pa, 0, none⟩ = some (.slice (some ⟨g, 0, none⟩) L.length cap) ∧ W.cell? ⟨B, 0, none⟩ = some (.int .i64 d.1) ∧ W.cell? ⟨B, 1, none⟩ = some (.int .i64 d.2) ∧
              W.cell? ⟨g, p * 2, none⟩ = some (.int .i64 dp.1) ∧ W.cell? ⟨g, p * 2 + 1, none⟩ = some (.int .i64 dp.2))
            (first | go_keep | exact ⟨cell_later hb2 h0, cell_later hb2 b0, cell_later hb2 b1, cell_later hb2 c0, cell_later hb2 c1⟩)
            (first | (go_at_call 39; refine (ahead_is d dp _ HLE.out _).mono ?_; rintro e W2 ⟨rfl, hb2⟩))
          all_goals
            go_wp2_with fail
            go_roundw
            case measure => simp [intOf]; omega
            · refine ⟨j + 1, by simp, by omega, ?_⟩
              first
              | exact HB1.out.drew.trans ((below_of_drew hb2).mono HB1.out.size)
              | exact HB1.out.trans ((below_of_drew hb2).mono HB1.out.size)
      · have q1 : ¬ (j : Int) < (L.length : Int) := by omega
        have hlen : ∀ (w' : World), w'.heap = wr.heap → (Builtin.len_ #[60] 3 #[.map (some mb)]).run Try.prog w' = .ok (.int .i64 L.length) w' := by
          intro w' hw'
          have hm : GMap Try.prog 3 ik iok nk w' mb m := HR.out.map.of_block (by rw [hw'])
          have := hm.len (ty := 3) Try.underlying60
          rw [HX.out.len] at this
          exact this
        have l1 := hlen wr.drew rfl
        have l2 := hlen wr rfl
        obtain ⟨h0, h1, _, _, _, _⟩ := HR.out.heads
        clear hlen
        go_wp2_with fail
        go_region
        all_goals
          go_wp2_with fail
          go_ret
          first
          | exact ⟨by simp, HB.out.drew⟩
          | exact ⟨by simp, HB.out⟩
end Go.Proofs.Ytcnifhkgibopbaa
