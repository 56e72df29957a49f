/- The walks of When, Move and does. -/
import Derived.Test.YtcnifhkgibopbaaAlarmJ
import Derived.Test.YtcnifhkgibopbaaHeapP
set_option linter.unusedVariables false
set_option linter.unusedSimpArgs false
namespace Go.Proofs.Ytcnifhkgibopbaa
open Go.RowKit Go.MapKept Go.ChangeMaps

theorem when_none (pa : Nat) (id : Int) (L : List D2) (last : Int) (S : Nat → Prop) (w : World) (h : Alm w pa L last S) (hid : iok id) (hf : findL L id = none) :
    Calls Try.prog 22 #[.pointer (some ⟨pa, 0, none⟩), .int .i64 id] w fun e w' => e = .returned (.tuple #[.int .i64 0, .bool false]) ∧ w = w' := by
  obtain ⟨mb, v, m, hw, hx⟩ := h
  obtain ⟨_, a1, _, _, _, _⟩ := hw.heads
  have hrun := hw.map.lookup (int_like Try.underlying3) Try.underlying60 (zero_int w) id hid true
  rw [hx.find, hf] at hrun
  simp only [if_true, ik] at hrun
  clear hw hx hf hid
  go_enter Try.func22, Try.ntmps22
  go_wp2_with fail
  go_ret2
  exact ⟨rfl, rfl⟩

theorem when_some (pa : Nat) (id : Int) (L : List D2) (last : Int) (S : Nat → Prop) (w : World) (h : Alm w pa L last S) (hid : iok id) (k : Nat) (hf : findL L id = some k) :
    Calls Try.prog 22 #[.pointer (some ⟨pa, 0, none⟩), .int .i64 id] w fun e w' => e = .returned (.tuple #[.int .i64 (fn L k).1, .bool true]) ∧ w = w' := by
  obtain ⟨mb, v, m, hw, hx⟩ := h
  have hrun := hw.map.lookup (int_like Try.underlying3) Try.underlying60 (zero_int w) id hid true
  rw [hx.find, hf] at hrun
  simp only [if_true, ik, nk] at hrun
  obtain ⟨d, hd, _⟩ := findL_some hf
  have hk : k < L.length := (List.getElem?_eq_some_iff.1 hd).1
  obtain ⟨g, cap, rfl⟩ := hw.form hk
  obtain ⟨a0, a1, _, _, _, _⟩ := hw.heads
  obtain ⟨c0, c1, _, _⟩ := hw.cells hd
  have e : fn L k = d := by unfold fn; rw [List.getD_eq_getElem?_getD, hd]; rfl
  have hkl : (k : Int) < (L.length : Int) := by omega
  rw [e]
  clear hw hx hf hid hd e
  go_enter Try.func22, Try.ntmps22
  go_wp2_with fail
  go_ret2
  exact ⟨rfl, rfl⟩

def moveL (L : List D2) (k : Nat) (at_ : Int) : List D2 :=
  let L2 := riseL k (L.set k (at_, (fn L k).2)) k
  sinkL L2.length L2 ((findL L2 (fn L k).2).getD 0)

theorem Idx.moved {L : List D2} {m : List (Int × Nat)} (h : Idx L m) {k : Nat} (hk : k < L.length) (at_ : Int) : Idx (L.set k (at_, L[k].2)) m := by
  refine ⟨fun id i => ?_, by rw [List.length_set]; exact h.len, fun d hd => ?_, by rw [List.length_set]; exact h.small⟩
  · rw [h.get, List.getElem?_set]
    by_cases e : k = i
    · subst e
      rw [if_pos rfl, if_pos hk, List.getElem?_eq_getElem hk]
      simp
    · rw [if_neg e]
  · rcases List.mem_or_eq_of_mem_set hd with hd | rfl
    · exact h.ok d hd
    · have := h.ok _ (List.getElem_mem hk); exact this
theorem AlmRaw.stored0 {w : World} {pa mb g cap : Nat} {L : List (Int × Int)} {m : List (Int × Nat)} {last : Int} {S : Nat → Prop} (h : AlmRaw w pa mb (.slice (some ⟨g, 0, none⟩) L.length cap) L m last S) (k : Nat) (hk : k < L.length) (x : Int) :
    AlmRaw (w.setCell ⟨g, k * 2, none⟩ (.int .i64 x)) pa mb (.slice (some ⟨g, 0, none⟩) L.length cap) (L.set k (x, L[k].2)) m last S ∧ Only S w (w.setCell ⟨g, k * 2, none⟩ (.int .i64 x)) := by
  have hg := h.inS.2.2 g rfl
  refine ⟨⟨?_, ?_, ?_, h.inS, h.ne, ?_⟩, ?_⟩
  · exact heap_set_ne _ _ _ h.box (Ne.symm hg.2.1)
  · have := (h.row.stored (k * 2) (.int .i64 x)).1
    have e : (flat due L).set (k * 2) (.int .i64 x) = flat due (L.set k (x, L[k].2)) := by
      rw [← flat_due_set L k hk]
      have hc := (flat_due_at (List.getElem?_eq_getElem hk)).2
      obtain ⟨hl, hv⟩ := List.getElem?_eq_some_iff.1 hc
      apply List.ext_getElem?
      intro i
      rw [List.getElem?_set (i := k * 2 + 1)]
      by_cases e : k * 2 + 1 = i
      · subst e
        rw [if_pos rfl, if_pos (by rw [List.length_set]; exact hl), List.getElem?_set, if_neg (by omega), hc]
      · rw [if_neg e]
    rw [e] at this
    rw [List.length_set]
    exact this
  · exact h.map.of_block (Below.heap_setCell _ _ _ _ (Ne.symm hg.2.2))
  · intro k hk; simpa using h.low k hk
  · exact (Only.refl S w).setCell (.inl hg.1) _

theorem move_no (pa : Nat) (id at_ : Int) (L : List D2) (last : Int) (S : Nat → Prop) (w : World) (h : Alm w pa L last S) (hid : iok id) (hf : findL L id = none ∨ (decide (0 ≤ at_) && decide (at_ ≤ 1099511627776)) = false) :
    Calls Try.prog 23 #[.pointer (some ⟨pa, 0, none⟩), .int .i64 id, .int .i64 at_] w fun e w' => e = .returned (.bool false) ∧ w = w' := by
  obtain ⟨mb, v, m, hw, hx⟩ := h
  obtain ⟨_, a1, _, _, _, _⟩ := hw.heads
  have hrun := hw.map.lookup (int_like Try.underlying3) Try.underlying60 (zero_int w) id hid true
  rw [hx.find] at hrun
  cases hfi : findL L id with
  | none =>
    rw [hfi] at hrun
    simp only [if_true, ik] at hrun
    clear hw hx hf hid hfi
    go_enter Try.func23, Try.ntmps23
    go_wp2_with fail
    go_ret
    exact ⟨rfl, rfl⟩
  | some k =>
    rw [hfi] at hrun
    simp only [if_true, ik, nk] at hrun
    have hr : (decide (0 ≤ at_) && decide (at_ ≤ 1099511627776)) = false := by
      rcases hf with h | h
      · rw [hfi] at h; cases h
      · exact h
    have HR := Lib.hid hr
    clear hw hx hf hid hfi hr
    go_enter Try.func23, Try.ntmps23
    go_wp2_with fail
    refine (right_is at_ false HR.out _).mono ?_
    rintro e w' ⟨rfl, rfl⟩
    go_wp2_with fail
    go_ret
    exact ⟨rfl, rfl⟩

theorem find_perm {L M : List D2} (h : L.Perm M) {id : Int} {k : Nat} (hf : findL M id = some k) : ∃ j, findL L id = some j := by
  obtain ⟨d, hd, he⟩ := findL_some hf
  have hm : d ∈ L := h.mem_iff.2 (List.mem_of_getElem? hd)
  cases hj : findL L id with
  | some j => exact ⟨j, rfl⟩
  | none =>
    unfold findL at hj
    rw [List.findIdx?_eq_none_iff] at hj
    have := hj d hm
    simp [he] at this

set_option maxHeartbeats 400000 in
theorem move_yes (pa : Nat) (id at_ : Int) (L : List D2) (last : Int) (S : Nat → Prop) (w : World) (h : Alm w pa L last S) (hid : iok id) (k : Nat) (hf : findL L id = some k) (hr : (decide (0 ≤ at_) && decide (at_ ≤ 1099511627776)) = true) :
    Calls Try.prog 23 #[.pointer (some ⟨pa, 0, none⟩), .int .i64 id, .int .i64 at_] w fun e w' => e = .returned (.bool true) ∧ Alm w' pa (moveL L k at_) last S ∧ Only S w w' := by
  obtain ⟨mb, v, m, hw, hx⟩ := h
  have hrun := hw.map.lookup (int_like Try.underlying3) Try.underlying60 (zero_int w) id hid true
  rw [hx.find, hf] at hrun
  simp only [if_true, ik, nk] at hrun
  obtain ⟨d, hd, hde⟩ := findL_some hf
  have hk : k < L.length := (List.getElem?_eq_some_iff.1 hd).1
  have hdk : L[k] = d := by rw [List.getElem?_eq_getElem hk] at hd; injection hd
  have e : fn L k = d := by unfold fn; rw [List.getD_eq_getElem?_getD, hd]; rfl
  obtain ⟨g, cap, rfl⟩ := hw.form hk
  obtain ⟨a0, a1, _, _, _, _⟩ := hw.heads
  obtain ⟨c0, c1, f0, f1⟩ := hw.cells hd
  have hkl : (k : Int) < (L.length : Int) := by omega
  have HR := Lib.hid hr
  have hst := hw.stored0 k hk at_
  have hmv := hx.moved hk at_
  rw [hdk] at hst hmv
  have ha : Alm (w.setCell ⟨g, k * 2, none⟩ (.int .i64 at_)) pa (L.set k (at_, d.2)) last S := ⟨mb, _, m, hst.1, hmv⟩
  have HA := Lib.hid ha
  have HO := Lib.hid hst.2
  have HM := Lib.hid (show moveL L k at_ = sinkL (riseL k (L.set k (at_, d.2)) k).length (riseL k (L.set k (at_, d.2)) k) ((findL (riseL k (L.set k (at_, d.2)) k) d.2).getD 0) by unfold moveL; rw [e])
  have hrp : (riseL k (L.set k (at_, d.2)) k).Perm (L.set k (at_, d.2)) := rise_perm _ _ _ (by simpa using hk)
  have hf1 : ∃ j, findL (L.set k (at_, d.2)) d.2 = some j := by
    have := (hmv.get d.2 k).2 ⟨(at_, d.2), by rw [List.getElem?_set, if_pos rfl, if_pos hk], rfl⟩
    rw [hmv.find] at this
    exact ⟨k, this⟩
  obtain ⟨j1, hj1⟩ := hf1
  obtain ⟨j2, hj2⟩ := find_perm hrp hj1
  have HJ := Lib.hid hj2
  have HDE := Lib.hid hde
  have HID := Lib.hid hid
  clear hw hx hf hid hd e hr hst hmv ha hdk hrp hj1 hj2 hde
  go_enter Try.func23, Try.ntmps23
  go_wp2_with fail
  refine (right_is at_ true HR.out _).mono ?_
  rintro e w' ⟨rfl, rfl⟩
  go_wp2_with fail
  refine (rise_any pa k _ last S _ HA.out (by simpa using hk) _ rfl).mono ?_
  rintro e w2 ⟨rfl, h2, ho2⟩
  have H2 := Lib.hid h2
  have HO2 := Lib.hid ho2
  obtain ⟨mb2, v2, m2, hw2, hx2⟩ := h2
  have hrun2 := hw2.map.lookup (int_like Try.underlying3) Try.underlying60 (zero_int w2) id HID.out false
  rw [hx2.find, ← HDE.out, HJ.out, HDE.out] at hrun2
  simp only [Bool.false_eq_true, if_false, ik, nk] at hrun2
  obtain ⟨_, b1, _, _, _, _⟩ := hw2.heads
  clear hw2 hx2 ho2
  go_wp2_with fail
  refine (sink_any pa j2 _ last S _ H2.out (by obtain ⟨d', hd', _⟩ := findL_some HJ.out; exact (List.getElem?_eq_some_iff.1 hd').1) _ rfl).mono ?_
  rintro e w3 ⟨rfl, h3, ho3⟩
  go_wp2_with fail
  go_ret
  refine ⟨rfl, ?_, (HO.out.then_ HO2.out).then_ ho3⟩
  rw [HM.out, HJ.out]
  exact h3
end Go.Proofs.Ytcnifhkgibopbaa
