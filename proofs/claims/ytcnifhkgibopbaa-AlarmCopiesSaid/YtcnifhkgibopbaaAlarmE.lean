/- The walk of Set. -/
import Derived.Test.YtcnifhkgibopbaaAlarmD
set_option linter.unusedVariables false
set_option linter.unusedSimpArgs false
namespace Go.Proofs.Ytcnifhkgibopbaa
open Go.RowKit Go.MapKept Go.ChangeMaps

theorem right_is (at_ : Int) (v : Bool) (hv : (decide (0 ≤ at_) && decide (at_ ≤ 1099511627776)) = v) (w : World) :
    Calls Try.prog 26 #[.int .i64 at_] w fun e w' => e = .returned (.bool v) ∧ w = w' := by
  subst hv
  exact right_any at_ w
theorem Try.infoDue : (Try.prog.info? 33).map (fun i => (i.zero, i.size, i.bytes)) = some (some (.agg #[.int .i64 0, .int .i64 0]), 2, 16) := by kernel_rfl
theorem Alm.last {w : World} {pa : Nat} {L : List D2} {last : Int} {S : Nat → Prop} (h : Alm w pa L last S) : w.cell? ⟨pa, 2, none⟩ = some (.int .i64 last) := by
  obtain ⟨_, _, _, hr, _⟩ := h
  exact hr.heads.2.2.1
theorem AlmRaw.slice {w : World} {pa mb : Nat} {v : Value} {L : List (Int × Int)} {m : List (Int × Nat)} {last : Int} {S : Nat → Prop} (h : AlmRaw w pa mb v L m last S) : ∃ A c, v = .slice A L.length c := by
  rcases h.row.2 with ⟨rfl, h0⟩ | ⟨g, cap, cur, rfl, _⟩
  · exact ⟨none, 0, by rw [h0]⟩
  · exact ⟨_, cap, rfl⟩

/-- One more place behind the others. -/
theorem AlmRaw.pushed {w w1 : World} {pa mb : Nat} {v v1 : Value} {L : List (Int × Int)} {m : List (Int × Nat)} {last last' : Int} {S : Nat → Prop} (h : AlmRaw w pa mb v L m last S)
    (hown : w1.ownsRow 0 33 2 v1 (L.length + 1) (flat due L ++ [.int .i64 0, .int .i64 0])) (hg : (w.setCell ⟨pa, 2, none⟩ (.int .i64 last')).grownBy w1 v.ownBlock)
    (hat : v1.ownBlock = v.ownBlock ∨ v1.ownBlock = some ((w.setCell ⟨pa, 2, none⟩ (.int .i64 last')).heap.size + 1)) :
    w1.heap[pa]? = some (.cells #[v, .map (some mb), .int .i64 last'] 62 (0, 0)) ∧
    AlmRaw (w1.setCell ⟨pa, 0, none⟩ v1) pa mb v1 (L ++ [(0, 0)]) m last' (fun k => S k ∨ v1.ownBlock = some k) ∧ Only S w (w1.setCell ⟨pa, 0, none⟩ v1) ∧ ∀ k, (S k ∨ v1.ownBlock = some k) → S k ∨ w.heap.size ≤ k := by
  have lpa := lt_of_heap h.box
  have lmb := h.map.lt
  have hsz : (w.setCell ⟨pa, 2, none⟩ (.int .i64 last')).heap.size = w.heap.size := by simp
  have hne : ∀ k, some k = v.ownBlock → S k ∧ k ≠ pa ∧ k ≠ mb := fun k hk => h.inS.2.2 k hk.symm
  have hb1 : w1.heap[pa]? = some (.cells #[v, .map (some mb), .int .i64 last'] 62 (0, 0)) := by
    rw [hg.block pa (by rw [hsz]; exact lpa) fun e => (hne pa e).2.1 rfl]
    have := heap_set_eq (i := 2) w (.int .i64 last') h.box
    simpa using this
  have hmb1 : w1.heap[mb]? = w.heap[mb]? := by
    rw [hg.block mb (by rw [hsz]; exact lmb) fun e => (hne mb e).2.2 rfl]
    exact Below.heap_setCell _ _ _ _ (Ne.symm h.ne)
  have hon : ∀ g, v1.ownBlock = some g → g ≠ pa ∧ g ≠ mb ∧ g < w1.heap.size ∧ (S g ∨ w.heap.size ≤ g) := by
    intro g hgg
    have hlt : g < w1.heap.size := (hown.lt g hgg).2
    rcases hat with e | e
    · rw [e] at hgg
      have := h.inS.2.2 g hgg
      exact ⟨this.2.1, this.2.2, hlt, .inl this.1⟩
    · rw [e] at hgg
      injection hgg with hgg
      rw [hsz] at hgg
      exact ⟨by omega, by omega, hlt, .inr (by omega)⟩
  have hw1 : w.heap.size ≤ w1.heap.size := by have := hg.size; rw [hsz] at this; exact this
  refine ⟨hb1, ⟨?_, ?_, ?_, ⟨.inl h.inS.1, .inl h.inS.2.1, fun g hgg => ⟨.inr hgg, (hon g hgg).1, (hon g hgg).2.1⟩⟩, h.ne, ?_⟩, ?_, ?_⟩
  · have := heap_set_eq (i := 0) w1 v1 hb1
    simpa using this
  · have e : flat due (L ++ [(0, 0)]) = flat due L ++ [.int .i64 0, .int .i64 0] := by rw [flat_append]; rfl
    rw [e, List.length_append, List.length_singleton]
    exact ((Only.refl (· = pa) w1).setCell (p := ⟨pa, 0, none⟩) (.inl rfl) v1).own hown fun g hgg => (hon g hgg).1
  · refine h.map.of_block ?_
    rw [Below.heap_setCell _ _ _ _ (Ne.symm h.ne)]
    exact hmb1
  · intro k hk
    simp only [World.size_setCell]
    rcases hk with hk | hk
    · have := h.low k hk; omega
    · exact (hon k hk).2.2.1
  · exact ((((Only.refl S w).setCell (p := ⟨pa, 2, none⟩) (.inl h.inS.1) _).grown hg fun k hk => .inl (h.inS.2.2 k hk).1)).setCell (.inl h.inS.1) _
  · intro k hk
    rcases hk with hk | hk
    · exact .inl hk
    · exact (hon k hk).2.2.2

set_option maxRecDepth 100000 in
set_option maxHeartbeats 400000 in
theorem set_yes (pa : Nat) (at_ : Int) (L : List D2) (last : Int) (S : Nat → Prop) (w : World) (h : Alm w pa L last S) (hr : (decide (0 ≤ at_) && decide (at_ ≤ 1099511627776)) = true) (hlen : L.length < 4096) (hl0 : 0 ≤ last) (hl1 : last ≤ 4611686018427387904) (hf : ∀ d ∈ L, d.2 ≤ last) :
    Calls Try.prog 12 #[.pointer (some ⟨pa, 0, none⟩), .int .i64 at_] w fun e w' => e = .returned (.tuple #[.int .i64 (last + 1), .int .i64 0]) ∧
      ∃ S', Alm w' pa (setL L at_ (last + 1)) (last + 1) S' ∧ (∀ k, S' k → S k ∨ w.heap.size ≤ k) ∧ Only S w w' := by
  obtain ⟨mb, v, m, hw, hx⟩ := h
  obtain ⟨A, c, hv⟩ := hw.slice
  subst hv
  obtain ⟨a0, a1, a2, a3, a4, a5⟩ := hw.heads
  have lpa := lt_of_heap hw.box
  have hrow1 := (((Only.refl (· = pa) w).setCell (p := ⟨pa, 2, none⟩) (.inl rfl) (.int .i64 (last + 1)))).own hw.row fun g hg => (hw.inS.2.2 g hg).2.1
  have hb1 := heap_set_eq (i := 2) w (.int .i64 (last + 1)) hw.box
  have HROW := Lib.hid hrow1
  have HB1 := Lib.hid hb1
  have HW := Lib.hid hw
  have HX := Lib.hid hx
  have HF := Lib.hid hf
  have HR := Lib.hid hr
  have hne : ¬ (4096 : Int) ≤ (L.length : Int) := by omega
  clear hw hx hf hr hrow1 hb1
  go_enter Try.func12, Try.ntmps12
  go_wp2_with (first | (go_at_call 26; refine (right_is at_ true HR.out _).mono ?_; rintro e w' ⟨rfl, rfl⟩) | (at_builtin; refine holdL ?_))
  refine HoldL.go ?_
  refine append_one rfl _ _ 29 33 (.agg #[.int .i64 0, .int .i64 0]) 2 16 rfl Try.underlying29 Try.infoDue rfl (by omega) (by omega) (.slice A L.length c) L.length (flat due L) #[.int .i64 0, .int .i64 0] w.heap.size rfl rfl (by simp) rfl (by simp [Value.oneCell']) HROW.out (by omega) ?_
  intro v1 w1 hown hg hat
  obtain ⟨hbox, hraw, honly, hsub⟩ := HW.out.pushed hown hg hat
  obtain ⟨L1, hL1⟩ : ∃ L1, L1 = L ++ [((0 : Int), (0 : Int))] := ⟨_, rfl⟩
  rw [← hL1] at hraw
  have hl1 : L1.length = L.length + 1 := by rw [hL1]; simp
  obtain ⟨g, cap, hv1⟩ := hraw.form (k := L.length) (by omega)
  rw [hl1] at hv1
  subst hv1
  have b0 := cell_of_cells hbox 0
  have f0 := free_of_cells hbox 0
  simp only [List.getElem?_toArray, List.getElem?_cons_zero] at b0
  have c0 := (hraw.heads).1
  have c2 := (hraw.heads).2.2.1
  have HRAW := Lib.hid hraw
  have HONLY := Lib.hid honly
  have HSUB := Lib.hid hsub
  have HL1 := Lib.hid hL1
  have HLL := Lib.hid hl1
  have hok : iok (last + 1) := WalkArith.wf_i64 (by omega)
  clear hraw honly hsub hL1 hl1 hown hg hat hbox a0 a1 a2 a3 a4 a5
  go_wp2_with fail
  refine gen_world (fun W => Hid (AlmRaw W pa mb (.slice (some ⟨g, 0, none⟩) (L.length + 1) cap) L1 m (last + 1) (fun k => S k ∨ (Value.slice (some ⟨g, 0, none⟩) (L.length + 1) cap).ownBlock = some k)) ∧ Hid (Only S w W)) ⟨HRAW, HONLY⟩ ?_
  clear HRAW HONLY c0 c2 b0 f0
  intro W ⟨HRAW, HONLY⟩
  have c0 := (HRAW.out.heads).1
  have c2 := (HRAW.out.heads).2.2.1
  obtain ⟨S', hS'⟩ : ∃ S', S' = (fun k => S k ∨ (Value.slice (some ⟨g, 0, none⟩) (L.length + 1) cap).ownBlock = some k) := ⟨_, rfl⟩
  rw [← hS'] at HRAW
  have e1 : (L.length : Int) + 1 - 1 = (L.length : Int) := by omega
  have ew : IntKind.i64.wrap (L.length : Int) = (L.length : Int) := IntWalk.i64_in _ (by omega)
  go_region_held3 (fun W => W.cell? ⟨pa, 0, none⟩ = some (.slice (some ⟨g, 0, none⟩) (L.length + 1) cap) ∧ W.cell? ⟨pa, 2, none⟩ = some (.int .i64 (last + 1)))
    (first | go_keep | exact ⟨(h3.heads).1, (h3.heads).2.2.1⟩)
    (first | (go_at_call 27; (with_reducible refine (lay_any pa mb g cap L.length at_ (last + 1) L1 m (last + 1) S' _ (by rw [HLL.out]; exact HRAW.out.drew) (by rw [HLL.out]; omega) hok _ rfl (L.length + 1) HLL.out.symm).mono ?_); rintro e W1 ⟨rfl, h3, ho3⟩; rw [HLL.out] at h3))
  clear ew
  go_wp2_with fail
  have hset : L1.set L.length (at_, last + 1) = L ++ [(at_, last + 1)] := by rw [HL1.out]; simp
  have ha : Alm W1 pa (L ++ [(at_, last + 1)]) (last + 1) S' := by
    rw [hset] at h3
    have hl : (L ++ [(at_, last + 1)]).length = L.length + 1 := by simp
    exact ⟨mb, _, _, h3, HX.out.push _ (fun x hx => by have := HF.out x hx; simp only []; omega) hok hlen⟩
  have HA := Lib.hid ha
  have HO3 := Lib.hid ho3
  have HS' := Lib.hid hS'
  clear hset ha ho3 h3 hS'
  refine (rise_any pa L.length _ _ _ _ HA.out (by simp) _ rfl).mono ?_
  rintro e W2 ⟨rfl, h4, ho4⟩
  have c2 := h4.last
  have H4 := Lib.hid h4
  have HO4 := Lib.hid ho4
  clear h4 ho4
  go_wp2_with fail
  go_ret2
  refine ⟨rfl, S', H4.out, fun k hk => HSUB.out k (by rw [HS'.out] at hk; exact hk), ?_⟩
  have hx : ∀ i, i < w.heap.size → S' i → S i := fun i hi hk => by
    rcases HSUB.out i (by rw [HS'.out] at hk; exact hk) with h | h
    · exact h
    · omega
  exact (HONLY.out.drew.trans HO3.out hx).trans HO4.out hx

theorem set_arg (pa : Nat) (at_ : Int) (w : World) (hr : (decide (0 ≤ at_) && decide (at_ ≤ 1099511627776)) = false) :
    Calls Try.prog 12 #[.pointer (some ⟨pa, 0, none⟩), .int .i64 at_] w fun e w' => e = .returned (.tuple #[.int .i64 0, .int .i64 1]) ∧ w = w' := by
  have HR := Lib.hid hr
  clear hr
  go_enter Try.func12, Try.ntmps12
  go_wp2_with (first | (go_at_call 26; refine (right_is at_ false HR.out _).mono ?_; rintro e w' ⟨rfl, rfl⟩))
  go_ret2
  exact ⟨rfl, rfl⟩

theorem set_full (pa : Nat) (at_ : Int) (L : List D2) (last : Int) (S : Nat → Prop) (w : World) (h : Alm w pa L last S) (hr : (decide (0 ≤ at_) && decide (at_ ≤ 1099511627776)) = true) (hlen : 4096 ≤ L.length) :
    Calls Try.prog 12 #[.pointer (some ⟨pa, 0, none⟩), .int .i64 at_] w fun e w' => e = .returned (.tuple #[.int .i64 0, .int .i64 60]) ∧ w = w' := by
  obtain ⟨mb, v, m, hw, hx⟩ := h
  obtain ⟨A, c, hv⟩ := hw.slice
  subst hv
  obtain ⟨a0, _, _, _, _, _⟩ := hw.heads
  have HR := Lib.hid hr
  have hne : (4096 : Int) ≤ (L.length : Int) := by omega
  clear hw hx hr
  go_enter Try.func12, Try.ntmps12
  go_wp2_with (first | (go_at_call 26; refine (right_is at_ true HR.out _).mono ?_; rintro e w' ⟨rfl, rfl⟩))
  go_ret2
  exact ⟨rfl, rfl⟩
end Go.Proofs.Ytcnifhkgibopbaa
