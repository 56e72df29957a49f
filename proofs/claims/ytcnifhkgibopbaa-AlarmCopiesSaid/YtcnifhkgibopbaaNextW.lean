/- The walk of AlarmNext. -/
import Derived.Test.YtcnifhkgibopbaaAlarmL
set_option linter.unusedVariables false
set_option linter.unusedSimpArgs false
namespace Go.Proofs.Ytcnifhkgibopbaa
open Go.RowKit Go.MapKept Go.ChangeMaps

abbrev O3 := Int × Int × Int
def op3 (o : O3) : List Value := [.int .i64 o.1, .int .i64 o.2.1, .int .i64 o.2.2]
theorem op3_length (o : O3) : (op3 o).length = 3 := rfl
theorem Rd.op_at {w : World} {v : Value} {L : List O3} (h : Rd op3 w v L) {k : Nat} {o : O3} (hk : L[k]? = some o) : ∃ b p c, v = .slice (some ⟨b, p, none⟩) L.length c ∧ w.cell? ⟨b, p + k * 3, none⟩ = some (.int .i64 o.1) ∧ w.cell? ⟨b, p + k * 3 + 1, none⟩ = some (.int .i64 o.2.1) ∧ w.cell? ⟨b, p + k * 3 + 2, none⟩ = some (.int .i64 o.2.2) := by
  obtain ⟨A, c, rfl, h1, h2, h3⟩ := h
  obtain ⟨b, p, rfl, hc⟩ := h3 (by have := (List.getElem?_eq_some_iff.1 hk).1; omega)
  have g := fun j hj => flat_at op3_length L k o j hk hj
  exact ⟨b, p, c, rfl, by have := hc (k * 3 + 0) _ (by rw [g 0 (by omega)]; rfl); simpa using this, by have := hc (k * 3 + 1) _ (by rw [g 1 (by omega)]; rfl); rw [Nat.add_assoc]; exact this, by have := hc (k * 3 + 2) _ (by rw [g 2 (by omega)]; rfl); rw [Nat.add_assoc]; exact this⟩
theorem Alm.idx {w : World} {pa : Nat} {L : List D2} {last : Int} {S : Nat → Prop} (h : Alm w pa L last S) : ∃ m, Idx L m := by
  obtain ⟨_, _, m, _, hx⟩ := h; exact ⟨m, hx⟩
theorem St.do_ {L : List D2} {last : Int} {n : Nat} (h : St L last n) (hx : ∃ m, Idx L m) (kind at_ id : Int) : St (doL L last kind at_ id).L (doL L last kind at_ id).last (n + 1) := by
  obtain ⟨m, hx⟩ := hx
  unfold doL
  split
  · split
    · rename_i hr; exact h.set hr
    · exact h.more (by omega)
  · split
    · cases hf : findL L id with
      | none => exact h.more (by omega)
      | some k =>
        obtain ⟨d, hd, _⟩ := findL_some hf
        exact (h.drop (List.getElem?_eq_some_iff.1 hd).1).more (by omega)
    · split
      · cases hf : findL L id with
        | none => exact h.more (by omega)
        | some k =>
          obtain ⟨d, hd, _⟩ := findL_some hf
          simp only
          split
          · rename_i hr; exact (h.move hx (List.getElem?_eq_some_iff.1 hd).1 hr).more (by omega)
          · exact h.more (by omega)
      · split
        · cases hf : findL L id with
          | none => exact h.more (by omega)
          | some k => exact h.more (by omega)
        · split
          · exact (h.take at_).more (by omega)
          · exact h.more (by omega)

theorem opn_op : Opn Try.prog 38 op3 (fun _ o => iok o.1 ∧ iok o.2.1 ∧ iok o.2.2) := by
  refine opn_struct1 Try.underlying38 ?_
  intro H enc w base sp held n cs xs hlen hf
  rw [show Try.prog.cellsOf 38 = 3 by kernel_rfl] at hlen
  have hi : Try.prog.cellsOf 3 = 1 := by kernel_rfl
  match cs, hlen with
  | [c0, c1, c2], _ =>
    obtain ⟨y0, h0⟩ := hf 0 _ rfl
    obtain ⟨y1, h1⟩ := hf 1 _ rfl
    obtain ⟨y2, h2⟩ := hf 2 _ rfl
    simp [hi] at h0 h1 h2
    obtain ⟨a, e0, w0⟩ := opn_int Try.underlying3 H enc w base sp held n _ _ h0
    obtain ⟨b, e1, w1⟩ := opn_int Try.underlying3 H enc w base sp held n _ _ h1
    obtain ⟨c, e2, w2⟩ := opn_int Try.underlying3 H enc w base sp held n _ _ h2
    injection e0 with e0
    injection e1 with e1
    injection e2 with e2
    subst e0 e1 e2
    exact ⟨(a, b, c), rfl, w0, w1, w2⟩
theorem opn_ops : Opn Try.prog 36 (fun a : Value × List O3 => [a.1]) (fun w a => Rd op3 w a.1 a.2 ∧ ∀ x ∈ a.2, iok x.1 ∧ iok x.2.1 ∧ iok x.2.2) :=
  opn_slice Try.underlying36 (by kernel_rfl) op3_length (by omega) opn_op

/-- What a loop over a script knows. -/
def ScriptR (w : World) (pa : Nat) (len : Nat) (i : Value) (wr : World) : Prop :=
  ∃ (k : Nat) (L : List D2) (last : Int) (S : Nat → Prop), i = .int .i64 k ∧ k ≤ len ∧ Alm wr pa L last S ∧ St L last k ∧ (∀ k, S k → w.heap.size ≤ k) ∧ Below w.heap.size w wr

set_option maxRecDepth 100000 in
set_option maxHeartbeats 800000 in
theorem next_walk (v : Value) (l : List O3) (w : World) (h : Rd op3 w v l) (hok : ∀ o ∈ l, iok o.2.2) :
    Calls Try.prog 4 #[v] w fun e w' => e = .returned (.bool true) ∧ Below w.heap.size w w' := by
  have hu := Try.underlying33
  have HH := Lib.hid h
  have HOK := Lib.hid hok
  obtain ⟨A, c, rfl, h1, h2, h3⟩ := h
  clear h3 hok
  by_cases hlen : 200 < l.length
  · go_enter Try.func4, Try.ntmps4
    go_wp2_with fail
    refine (new_any _).mono ?_
    rintro e w1 ⟨pa, S1, rfl, ha1, hs1, hb1⟩
    have HB1 := Lib.hid hb1
    clear ha1 hs1 hb1
    go_wp2_with fail
    refine (alive_any _).mono ?_
    rintro e w2 ⟨rfl, hb2⟩
    go_wp2_with fail
    go_ret
    exact ⟨rfl, HB1.out.trans (hb2.mono HB1.out.size)⟩
  · go_enter Try.func4, Try.ntmps4
    go_wp2_with fail
    refine (new_any _).mono ?_
    rintro e w1 ⟨pa, S1, rfl, ha1, hs1, hb1⟩
    have H1 := Lib.hid (And.intro ha1 (And.intro hs1 hb1))
    clear ha1 hs1 hb1
    go_wp2_with fail
    go_loopw [25] (fun i wr => ScriptR w pa l.length i wr) (fun i wr => l.length - (intOf i).toNat)
    case atStart => exact ⟨0, [], 0, S1, rfl, Nat.zero_le _, H1.out.1, St.nil, H1.out.2.1, H1.out.2.2⟩
    case round =>
      obtain ⟨k, L, last, S, rfl, hk, hA, hS, hsub, hB⟩ := hrel
      have HA := Lib.hid hA
      have HS := Lib.hid hS
      have HSUB := Lib.hid hsub
      have HB := Lib.hid hB
      clear hA hS hsub hB
      by_cases hkl : k < l.length
      · obtain ⟨o, ho⟩ : ∃ o, l[k]? = some o := ⟨_, List.getElem?_eq_getElem hkl⟩
        obtain ⟨b, p, c', hv, c0, c1, c2⟩ := (HH.out.below HB.out).op_at ho
        cases hv
        have hkl' : (k : Int) < (l.length : Int) := by omega
        have hoi := HOK.out o (List.mem_of_getElem? ho)
        have lb := World.block_lt_of_cell? _ _ c0
        have HOI := Lib.hid hoi
        clear ho hoi
        go_wp2_with fail
        refine (does_any pa o.1 o.2.1 o.2.2 L last S k _ (HA.out.below ((Below.refl _ _).alloc (Nat.le_refl _) _)) HS.out (by omega) HOI.out).mono ?_
        rintro e w2 ⟨v2, S2, rfl, _, _, h2, hs2, ho2⟩
        have hb2 : Below w.heap.size w w2 := below_of_only (HB.out.alloc HB.out.size _) ho2 (by have := HB.out.size; simp; omega) HSUB.out
        have hs2' : ∀ k, S2 k → w.heap.size ≤ k := fun k hk => by
          rcases hs2 k hk with h | h
          · exact HSUB.out k h
          · have := HB.out.size; simp at h; omega
        have H2 := Lib.hid (And.intro h2 (And.intro hs2' hb2))
        clear h2 hs2 ho2 hb2 hs2'
        go_wp2_with fail
        go_roundw
        case rel => exact ⟨k + 1, _, _, S2, by go_num, by omega, H2.out.1, HS.out.do_ HA.out.idx _ _ _, H2.out.2.1, H2.out.2.2⟩
        case measure => simp [intOf]; omega
      · cases hL : L with
        | nil =>
          go_wp2_with fail
          refine (next_none pa L last S _ HA.out hL).mono ?_
          rintro e w2 ⟨rfl, hb2⟩
          have HA2 := Lib.hid (HA.out.below hb2)
          have HB2 := Lib.hid (HB.out.trans (hb2.mono HB.out.size))
          clear hb2
          subst hL
          go_wp2_with fail
          refine (alive_any _).mono ?_
          rintro e w3 ⟨rfl, hb3⟩
          have hb23 : Below w2.heap.size w2 w3 := ((Below.refl _ _).alloc (Nat.le_refl _) _).trans (hb3.mono (by simp))
          have HA3 := Lib.hid (HA2.out.below hb23)
          have HB3 := Lib.hid (HB2.out.trans (hb23.mono HB2.out.size))
          clear hb3 hb23
          go_wp2_with fail
          refine (len_any pa [] _ S _ HA3.out).mono ?_
          rintro e w4 ⟨rfl, rfl⟩
          go_wp2_with fail
          refine (take_any pa 1099511627776 [] _ S _ HA3.out).mono ?_
          rintro e w5 ⟨v5, rfl, hown5, _, _, ho5⟩
          rw [show takeL (List.length ([] : List D2)) 1099511627776 [] = ([], []) from rfl] at hown5
          obtain ⟨A5, c5, hv5⟩ : ∃ A c, v5 = .slice A 0 c := by
            rcases hown5.2 with ⟨rfl, h0⟩ | ⟨g, cap, cur, rfl, _⟩
            · exact ⟨none, 0, rfl⟩
            · exact ⟨_, cap, rfl⟩
          subst hv5
          have HB5 := Lib.hid (below_of_only HB3.out ho5 HB3.out.size HSUB.out)
          clear hown5 ho5
          go_wp2_with fail
          go_ret
          exact ⟨rfl, HB5.out⟩
        | cons d r =>
          have hl0 : L[0]? = some d := by rw [hL]; rfl
          have HL0 := Lib.hid hl0
          have HLL := Lib.hid hL
          clear hl0 hL
          go_wp2_with fail
          refine (next_some pa L last S _ HA.out d HL0.out).mono ?_
          rintro e w2 ⟨rfl, hb2⟩
          have HA2 := Lib.hid (HA.out.below hb2)
          have HB2 := Lib.hid (HB.out.trans (hb2.mono HB.out.size))
          clear hb2
          have hL := HLL.out
          have hd := HS.out.ticks d (by rw [hL]; simp)
          have hlp : 0 < L.length := by rw [hL]; simp
          have hget : L.getD 0 (0, 0) = d := by rw [hL]; rfl
          have hemp : L.isEmpty = false := by rw [hL]; rfl
          have ht0 : takeL L.length (d.1 - 1) L = ([], L) := by
            cases hll : L.length with
            | zero => omega
            | succ f => rw [takeL, hget, if_neg]; simp [hemp]; omega
          have ht1 : takeL L.length d.1 L = (d :: (takeL (L.length - 1) d.1 (dropL L 0)).1, (takeL (L.length - 1) d.1 (dropL L 0)).2) := by
            conv => lhs; rw [show L.length = (L.length - 1) + 1 by omega]
            rw [takeL, hget, if_pos]; simp [hemp]
          have HT0 := Lib.hid ht0
          have HT1 := Lib.hid ht1
          clear hL hlp hget hemp ht0 ht1
          have b0 : w2.heap.size < (w2.alloc (.cells #[.int .i64 d.1, .int .i64 d.2] 33)).heap.size := by simp
          go_wp2_with fail
          refine (take_any pa (d.1 - 1) L last S _ (HA2.out.below ((Below.refl _ _).alloc (Nat.le_refl _) _))).mono ?_
          rintro e w5 ⟨v5, rfl, hown5, _, h5, ho5⟩
          rw [HT0.out] at hown5 h5
          obtain ⟨A5, c5, hv5⟩ : ∃ A c, v5 = .slice A 0 c := by
            rcases hown5.2 with ⟨rfl, h0⟩ | ⟨g, cap, cur, rfl, _⟩
            · exact ⟨none, 0, rfl⟩
            · exact ⟨_, cap, rfl⟩
          subst hv5
          have hlow : ∀ k, S k → k < w2.heap.size := by obtain ⟨_, _, _, hw, _⟩ := HA2.out; exact hw.low
          have hbx5 := ho5.obj (MapKept.heap_alloc w2 (.cells #[.int .i64 d.1, .int .i64 d.2] 33)).1 fun hk => by have := hlow _ hk; omega
          have HB5 := Lib.hid (below_of_only (HB2.out.alloc HB2.out.size _) ho5 (by have := HB2.out.size; simp; omega) HSUB.out)
          have HA5 := Lib.hid h5
          have d0 := cell_of_cells hbx5 0
          have d1 := cell_of_cells hbx5 1
          simp only [List.getElem?_toArray, List.getElem?_cons_zero, List.getElem?_cons_succ] at d0 d1
          have HBX5 := Lib.hid hbx5
          have HLOW := Lib.hid hlow
          clear hown5 ho5 h5 hbx5 hlow
          go_wp2_with fail
          refine (take_any pa d.1 L last S _ HA5.out).mono ?_
          rintro e w6 ⟨v6, rfl, hown6, hne6, h6, ho6⟩
          rw [HT1.out] at hown6
          obtain ⟨out, hout⟩ : ∃ out, out = d :: (takeL (L.length - 1) d.1 (dropL L 0)).1 := ⟨_, rfl⟩
          simp only [← hout] at hown6
          have hrd := Rd.of_own due_length hown6
          obtain ⟨bo, oo, co, hv, e0, e1⟩ := hrd.at_ (k := 0) (d := d) (by rw [hout]; rfl)
          subst hv
          simp only [Nat.zero_mul, Nat.add_zero] at e0 e1
          have hbx6 := ho6.obj HBX5.out fun hk => by have := HLOW.out _ hk; omega
          replace d0 := cell_of_cells hbx6 0
          replace d1 := cell_of_cells hbx6 1
          simp only [List.getElem?_toArray, List.getElem?_cons_zero, List.getElem?_cons_succ] at d0 d1
          have HB6 := Lib.hid (below_of_only HB5.out ho6 HB5.out.size HSUB.out)
          have hop : (0 : Int) < (out.length : Int) := by rw [hout]; simp only [List.length_cons]; omega
          have hopn : 0 < out.length := by rw [hout]; simp
          have hone : out ≠ [] := by rw [hout]; simp
          clear hown6 hne6 h6 ho6 hrd hbx6 b0 hout
          go_wp2_with fail
          go_region_held3 (fun W => W.cell? ⟨bo, oo, none⟩ = some (.int .i64 d.1) ∧ W.cell? ⟨bo, oo + 1, none⟩ = some (.int .i64 d.2) ∧ W.cell? ⟨w2.heap.size, 0, none⟩ = some (.int .i64 d.1) ∧ W.cell? ⟨w2.heap.size, 1, none⟩ = some (.int .i64 d.2))
            (first | go_keep | exact ⟨cell_later hb7 e0, cell_later hb7 e1, cell_later hb7 d0, cell_later hb7 d1⟩)
            (first | (go_at_call 11; refine (alive_any _).mono ?_; rintro e W7 ⟨rfl, hb7⟩))
          go_wp2_with fail
          go_ret
          exact ⟨rfl, HB6.out.trans ((below_of_drew hb7).mono HB6.out.size)⟩
end Go.Proofs.Ytcnifhkgibopbaa
