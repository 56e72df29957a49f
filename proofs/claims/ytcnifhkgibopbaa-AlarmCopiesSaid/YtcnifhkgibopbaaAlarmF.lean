/- The walks of drop, Len, Next, New. -/
import Derived.Test.YtcnifhkgibopbaaAlarmE
set_option linter.unusedVariables false
set_option linter.unusedSimpArgs false
namespace Go.Proofs.Ytcnifhkgibopbaa
open Go.RowKit Go.MapKept Go.ChangeMaps

theorem AlmRaw.popped {w w2 : World} {pa mb g cap n : Nat} {L : List (Int × Int)} {m m2 : List (Int × Nat)} {last : Int} {S : Nat → Prop} (h : AlmRaw w pa mb (.slice (some ⟨g, 0, none⟩) n cap) L m last S) (hn : n = L.length) (hp : 0 < n)
    (hmap : GMap Try.prog 3 ik iok nk w2 mb m2) (ho : Only (· = mb) w w2) :
    AlmRaw (w2.setCell ⟨pa, 0, none⟩ (.slice (some ⟨g, 0, none⟩) (n - 1) cap)) pa mb (.slice (some ⟨g, 0, none⟩) (n - 1) cap) (L.take (n - 1)) m2 last S ∧ Only S w (w2.setCell ⟨pa, 0, none⟩ (.slice (some ⟨g, 0, none⟩) (n - 1) cap)) := by
  have hg := h.inS.2.2 g rfl
  have hbox := ho.obj h.box h.ne
  have hrow := ho.own h.row fun k hk => by simp [Value.ownBlock] at hk; subst hk; exact hg.2.2
  refine ⟨⟨?_, ?_, ?_, ⟨h.inS.1, h.inS.2.1, fun k hk => h.inS.2.2 k (by simpa [Value.ownBlock] using hk)⟩, h.ne, ?_⟩, ?_⟩
  · have := heap_set_eq (i := 0) w2 (.slice (some ⟨g, 0, none⟩) (n - 1) cap) hbox
    simpa using this
  · have hl : (L.take (n - 1)).length = n - 1 := by simp; omega
    rw [hl]
    have h1 : w2.ownsRow 0 33 2 (.slice (some ⟨g, 0, none⟩) (n - 1) cap) (n - 1) (flat due (L.take (n - 1))) := by
      refine ⟨by rw [flat_length due_length, hl], ?_⟩
      rcases hrow.2 with ⟨hv, _⟩ | ⟨g', cap', cur, hv, hb, hh, r1, r2, r3, r4⟩
      · cases hv
      · injection hv with e1 e2 e3
        injection e1 with e1
        injection e1 with e1
        subst e1; subst e3
        refine .inr ⟨g, cap, cur, rfl, hb, hh, by omega, r2, r3, ?_⟩
        have : (flat due L).take ((n - 1) * 2) = flat due (L.take (n - 1)) := by
          conv => lhs; rw [← List.take_append_drop (n - 1) L, flat_append]
          exact List.take_left' (by rw [flat_length due_length, hl])
        rw [← this, ← r4, List.take_take, Nat.min_eq_left (by omega)]
    exact ((Only.refl (· = pa) w2).setCell (p := ⟨pa, 0, none⟩) (.inl rfl) _).own h1 fun k hk => by simp [Value.ownBlock] at hk; subst hk; exact hg.2.1
  · exact hmap.of_block (Below.heap_setCell _ _ _ _ (Ne.symm h.ne))
  · intro k hk
    simp only [World.size_setCell]
    exact Nat.lt_of_lt_of_le (h.low k hk) ho.size
  · exact (ho.mono fun k _ e => by rw [e]; exact h.inS.2.1).setCell (.inl h.inS.1) _

set_option maxRecDepth 100000 in
set_option maxHeartbeats 400000 in
theorem drop_any (pa k : Nat) (L : List D2) (last : Int) (S : Nat → Prop) (w : World) (h : Alm w pa L last S) (hk : k < L.length) (k' : Int) (hk' : k' = k) :
    Calls Try.prog 29 #[.pointer (some ⟨pa, 0, none⟩), .int .i64 k'] w fun e w' => e = .returned (.tuple #[]) ∧ Alm w' pa (dropL L k) last S ∧ Only S w w' := by
  subst hk'
  have hsm : L.length ≤ 4096 := by obtain ⟨_, _, _, _, hx⟩ := h; exact hx.small
  have HH := Lib.hid h
  obtain ⟨mb, v, m, hw, hx⟩ := h
  obtain ⟨A, c, rfl⟩ := hw.slice
  obtain ⟨a0, _, _, _, _, _⟩ := hw.heads
  clear hw hx
  obtain ⟨n, hn⟩ : ∃ n, L.length = n + 1 := ⟨L.length - 1, by omega⟩
  have e1 : (L.length : Int) - 1 = (n : Int) := by omega
  have HN := Lib.hid hn
  clear hn
  go_enter Try.func29, Try.ntmps29
  go_wp2_with fail
  refine (HH.out.swap hk (k := n) (by have := HN.out; omega) _ _ rfl rfl).mono ?_
  rintro e w1 ⟨rfl, h1, ho1⟩
  obtain ⟨L1, hL1⟩ : ∃ L1, L1 = swapL L k n := ⟨_, rfl⟩
  rw [← hL1] at h1
  have hl1 : L1.length = n + 1 := by rw [hL1, swapL_length]; exact HN.out
  obtain ⟨mb1, v1, m1, hw1, hx1⟩ := h1
  obtain ⟨g, cap, rfl⟩ := hw1.form (k := n) (by omega)
  have hcap := hw1.lens.2.1
  obtain ⟨b0, b1, _, f0, _, _⟩ := hw1.heads
  obtain ⟨d, hd⟩ : ∃ d, L1[n]? = some d := ⟨_, List.getElem?_eq_getElem (by omega)⟩
  obtain ⟨c0, c1, _, _⟩ := hw1.cells hd
  obtain ⟨w2, hrun, hmap, honly⟩ := hw1.map.drew.delete (ty := 0) (int_like Try.underlying3) Try.underlying60 d.2 (hx1.ok _ (List.mem_of_getElem? hd))
  unfold ik at hrun
  have HM := Lib.hid hmap
  have HO2 := Lib.hid honly
  have HW1 := Lib.hid hw1
  have HX1 := Lib.hid hx1
  have HO1 := Lib.hid ho1
  have HL1 := Lib.hid hL1
  have g1 : (n : Int) < (L1.length : Int) := by omega
  have HLL := Lib.hid hl1
  have HD := Lib.hid hd
  clear hmap honly hw1 hx1 ho1 hL1 a0 hl1 hd
  go_wp2_with fail
  go_region
  have hbox2 := HO2.out.obj (w := w1.drew) HW1.out.box HW1.out.ne
  have b2 := cell_of_cells hbox2 0
  have f2 := free_of_cells hbox2 0
  simp only [List.getElem?_toArray, List.getElem?_cons_zero] at b2
  have hpop := AlmRaw.popped (w := w1.drew) HW1.out.drew rfl (by omega) HM.out HO2.out
  have hgl : L1[L1.length - 1]? = some d := by rw [HLL.out]; exact HD.out
  have hidx := HX1.out.pop (HW1.out.map.nodup (int_like Try.underlying3)) (by omega)
  have hd2 : L1[L1.length - 1].2 = d.2 := by
    have := List.getElem?_eq_getElem (show L1.length - 1 < L1.length by omega)
    rw [hgl] at this
    injection this with this
    rw [this]
  rw [hd2] at hidx
  have hl2 : (L1.take (L1.length - 1)).length = n := by simp; have := HLL.out; omega
  have ha : Alm (w2.setCell ⟨pa, 0, none⟩ (.slice (some ⟨g, 0, none⟩) (L1.length - 1) cap)) pa (L1.take (L1.length - 1)) last S := ⟨mb1, .slice (some ⟨g, 0, none⟩) (L1.length - 1) cap, _, by have := hpop.1; exact this, hidx⟩
  have hob := hpop.2
  rw [show L1.length - 1 = n by have := HLL.out; omega] at ha hob hl2
  have HA := Lib.hid ha
  have HOB := Lib.hid hob
  have HL2 := Lib.hid hl2
  have gc : (n : Int) ≤ (cap : Int) := by omega
  clear hpop hidx hd2 hgl ha hob hl2 hbox2
  have hdrop : dropL L k = if k < n then sinkL n (riseL k (L1.take n) k) k else L1.take n := by
    unfold dropL
    have e := HN.out
    rw [show L.length - 1 = n by omega, ← HL1.out]
    dsimp only
    rw [HL2.out]
  have HDR := Lib.hid hdrop
  clear hdrop
  by_cases hkn : k < n
  · go_wp2_with fail
    refine (rise_any pa k _ _ _ _ HA.out (by rw [HL2.out]; exact hkn) _ rfl).mono ?_
    rintro e w3 ⟨rfl, h3, ho3⟩
    go_wp2_with fail
    refine (sink_any pa k _ _ _ _ h3 (by rw [riseL_length, HL2.out]; exact hkn) _ rfl).mono ?_
    rintro e w4 ⟨rfl, h4, ho4⟩
    rw [riseL_length, HL2.out] at h4
    go_wp2_with fail
    go_end0
    refine ⟨rfl, ?_, ((HO1.out.drew.then_ HOB.out).then_ ho3).then_ ho4⟩
    rw [HDR.out, if_pos hkn]
    exact h4
  · go_wp2_with fail
    go_end0
    refine ⟨rfl, ?_, HO1.out.drew.then_ HOB.out⟩
    rw [HDR.out, if_neg hkn]
    exact HA.out

theorem len_any (pa : Nat) (L : List D2) (last : Int) (S : Nat → Prop) (w : World) (h : Alm w pa L last S) :
    Calls Try.prog 14 #[.pointer (some ⟨pa, 0, none⟩)] w fun e w' => e = .returned (.int .i64 L.length) ∧ w = w' := by
  obtain ⟨mb, v, m, hw, hx⟩ := h
  obtain ⟨A, c, rfl⟩ := hw.slice
  obtain ⟨a0, _, _, _, _, _⟩ := hw.heads
  clear hw hx
  go_enter Try.func14, Try.ntmps14
  go_wp2_with fail
  go_ret
  exact ⟨rfl, rfl⟩

theorem next_none (pa : Nat) (L : List D2) (last : Int) (S : Nat → Prop) (w : World) (h : Alm w pa L last S) (hl : L = []) :
    Calls Try.prog 16 #[.pointer (some ⟨pa, 0, none⟩)] w fun e w' => e = .returned (.tuple #[.agg #[.int .i64 0, .int .i64 0], .bool false]) ∧ Below w.heap.size w w' := by
  obtain ⟨mb, v, m, hw, hx⟩ := h
  obtain ⟨A, c, rfl⟩ := hw.slice
  obtain ⟨a0, _, _, _, _, _⟩ := hw.heads
  have lpa := lt_of_heap hw.box
  clear hw hx
  subst hl
  go_enter Try.func16, Try.ntmps16
  go_wp2_with fail
  exact bodyPost_ret (v := .tuple #[.agg #[.int .i64 0, .int .i64 0], .bool false]) (by simp [results, Try.results16, go_sem]) rfl ⟨rfl, (Below.refl _ _).alloc (Nat.le_refl _) _⟩

theorem next_some (pa : Nat) (L : List D2) (last : Int) (S : Nat → Prop) (w : World) (h : Alm w pa L last S) (d : D2) (hl : L[0]? = some d) :
    Calls Try.prog 16 #[.pointer (some ⟨pa, 0, none⟩)] w fun e w' => e = .returned (.tuple #[.agg #[.int .i64 d.1, .int .i64 d.2], .bool true]) ∧ Below w.heap.size w w' := by
  obtain ⟨mb, v, m, hw, hx⟩ := h
  have h0 : 0 < L.length := (List.getElem?_eq_some_iff.1 hl).1
  obtain ⟨g, cap, rfl⟩ := hw.form h0
  obtain ⟨a0, _, _, _, _, _⟩ := hw.heads
  obtain ⟨c0, c1, _, _⟩ := hw.cells hl
  have lpa := lt_of_heap hw.box
  have lg := hw.low g (hw.inS.2.2 g rfl).1
  have hne : ((L.length : Int) == 0) = false := beq_eq_false_iff_ne.2 (by omega)
  simp only [Nat.zero_mul, Nat.zero_add] at c0 c1
  clear hw hx hl
  go_enter Try.func16, Try.ntmps16
  go_wp2_with fail
  exact bodyPost_ret (v := .tuple #[.agg #[.int .i64 d.1, .int .i64 d.2], .bool true]) (by simp [results, Try.results16, go_sem]) rfl ⟨rfl, (Below.refl _ _).alloc (Nat.le_refl _) _⟩

theorem new_any (w : World) :
    Calls Try.prog 10 #[] w fun e w' => ∃ pa S, e = .returned (.pointer (some ⟨pa, 0, none⟩)) ∧ Alm w' pa [] 0 S ∧ (∀ k, S k → w.heap.size ≤ k) ∧ Below w.heap.size w w' := by
  have hmm := @run_makeMap Try.prog
  go_enter Try.func10, Try.ntmps10
  go_wp2_with fail
  go_ret
  refine ⟨w.heap.size + 1, fun k => k = w.heap.size ∨ k = w.heap.size + 1, rfl, ⟨w.heap.size, .slice none 0 0, [], ?_, ?_⟩, fun k hk => by omega, ((Below.refl _ w).alloc (Nat.le_refl _) _).alloc (by simp) _⟩
  · refine ⟨(heap_two w _ _).2, World.ownsRow_nil _ _ _ _, (GMap.made w).alloc _, ⟨.inr rfl, .inl rfl, fun g hg => by simp [Value.ownBlock] at hg⟩, by omega, fun k hk => by simp; omega⟩
  · exact ⟨fun id i => by simp [mget], rfl, by simp, by simp⟩
end Go.Proofs.Ytcnifhkgibopbaa
