/- The document's answer for alarms: a row without one. -/
import Derived.Test.YtcnifhkgibopbaaRefA
import Derived.Deep.RegionLaw
set_option linter.unusedVariables false
set_option linter.unusedSimpArgs false
namespace Go.Proofs.Ytcnifhkgibopbaa
open Go.RowKit Go.MapKept Go.ChangeMaps

theorem step_append {ops : Array Oper} {o : Oper} {a : Act} {w : World} {K : Act → World → Prop} {Q : Exit → Act → World → Prop} {E : Prop} (hg : o.guard = none) (s x : Operand)
    (ho : o.op = .call { callee := .builtin .append, args := #[s, x], argTypes := #[39, 39] }) (v : Value) (xs ys : List D2) (ad : Addr) (c : Nat) (hs : a.eval s = v) (hx : a.eval x = .slice (some ad) ys.length c)
    (HO : w.ownsRow 0 53 2 v xs.length (flat due xs)) (hc : ∀ j u, (flat due ys)[j]? = some u → w.cell? (ad.add j) = some u) (hl : xs.length + ys.length ≤ 100000)
    (hK : ∀ v1 w1, w1.ownsRow 0 53 2 v1 (xs ++ ys).length (flat due (xs ++ ys)) → w.grownBy w1 v.ownBlock → (v1.ownBlock = v.ownBlock ∨ v1.ownBlock = some w.heap.size) → K (a.put o.dst v1) w1) :
    if Region.wanted o (yielded ops a.tmps) = true then Oper.wp Try.prog o a w K Q else E := by
  have hw : Region.wanted o (yielded ops a.tmps) = true := by simp [Region.wanted, hg]
  rw [if_pos hw]
  obtain ⟨i0, hi, hzz⟩ := Option.map_eq_some_iff.1 Try.infoRDue
  simp only [Prod.mk.injEq] at hzz
  obtain ⟨hz0, hz1, hz2⟩ := hzz
  obtain ⟨v', w', hr, h2, h3, _, h5⟩ := run_append_own_at (P := Try.prog) w 0 39 o.type 53 i0 (.agg #[.int .i64 0, .int .i64 0]) 2 16 Try.underlying39 hi hz0 hz1 hz2 rfl (by omega) v xs.length (flat due xs) HO ad ys.length c (flat due ys) (flat_length due_length ys) hc (fun u hu => due_one ys u hu) (by simp only [maxLen]; omega) (by omega) (Nat.zero_le _)
  unfold Oper.wp execOp
  simp only [ho, resolve, invoke, builtin, Sem.run_bind, Sem.run_pure, Result.andThen_ok, List.map_toArray, List.map_cons, List.map_nil, hs, hx, hr]
  refine hK _ _ ?_ h3 h5
  rw [List.length_append, flat_append]
  exact h2
theorem own_nil (W : World) : (W.alloc (.cells #[] 53)).ownsRow 0 53 2 (.slice (some ⟨W.heap.size, 0, none⟩) 0 0) ([] : List D2).length (flat due []) :=
  World.ownsRow_lit (base := 0) (e := 53) (size := 2) W #[] 0 (Nat.zero_le _) (by simp [maxLen]) rfl
theorem own_nil_drew (W : World) : (W.alloc (.cells #[] 53)).drew.ownsRow 0 53 2 (.slice (some ⟨W.heap.size, 0, none⟩) 0 0) ([] : List D2).length (flat due []) := own_nil W

theorem cell_later' {w w' : World} {a : Addr} {v : Value} (hb : Below w.heap.size w w') (h : w.cell? a = some v) : w'.cell? a = some v := by
  rw [hb.cell (World.block_lt_of_cell? _ _ h)]; exact h
set_option maxRecDepth 100000 in
set_option maxHeartbeats 800000 in
theorem without_any (v : Value) (L : List D2) (k : Nat) (w : World) (h : Rd due w v L) (hl : L.length ≤ 10000) (hk : k < L.length) :
    Calls Try.prog 33 #[v, .int .i64 k] w fun e w' => ∃ v', e = .returned v' ∧ Rd due w' v' (L.eraseIdx k) ∧ (∀ g, v'.ownBlock = some g → w.heap.size ≤ g ∧ g < w'.heap.size) ∧ Below w.heap.size w w' := by
  obtain ⟨A, c, rfl, h1, h2, h3⟩ := h
  obtain ⟨b, o, rfl, hcell⟩ := h3 (by omega)
  have hc1 : ∀ j u, (flat due (L.take k))[j]? = some u → w.cell? ((⟨b, o, none⟩ : Addr).add j) = some u := by
    intro j u hu
    have e : flat due L = flat due (L.take k) ++ flat due (L.drop k) := by rw [← flat_append, List.take_append_drop]
    have hjl := (List.getElem?_eq_some_iff.1 hu).1
    have := hcell j u (by rw [e, List.getElem?_append_left hjl]; exact hu)
    unfold Addr.add
    split
    · rename_i h0; subst h0; exact this
    · exact this
  have hc2 : ∀ j u, (flat due (L.drop (k + 1)))[j]? = some u → w.cell? ((⟨b, o + (k + 1) * 2, none⟩ : Addr).add j) = some u := by
    intro j u hu
    have e : flat due L = flat due (L.take (k + 1)) ++ flat due (L.drop (k + 1)) := by rw [← flat_append, List.take_append_drop]
    have hlt : (flat due (L.take (k + 1))).length = (k + 1) * 2 := by rw [flat_length due_length, List.length_take]; congr 1; omega
    have := hcell ((k + 1) * 2 + j) u (by rw [e, List.getElem?_append_right (by omega), hlt, Nat.add_sub_cancel_left]; exact hu)
    unfold Addr.add
    split
    · rename_i h0; subst h0; simpa using this
    · rw [Nat.add_assoc]; exact this
  have HC1 := Lib.hid hc1
  have HC2 := Lib.hid hc2
  have hlt : (L.take k).length = k := by rw [List.length_take]; omega
  have hld : (L.drop (k + 1)).length = L.length - (k + 1) := by rw [List.length_drop]
  have HLT := Lib.hid hlt
  have HLD := Lib.hid hld
  have k0 : (0 : Int) ≤ (k : Int) := by omega
  have k1 : (k : Int) ≤ (L.length : Int) := by omega
  have k2 : (k : Int) + 1 ≤ (L.length : Int) := by omega
  have k3 : (0 : Int) ≤ (k : Int) + 1 := by omega
  have k4 : (k : Int) ≤ 10000 := by omega
  have lc : (L.length : Int) ≤ (c : Int) := by omega
  have kc : (k : Int) ≤ (c : Int) := by omega
  have kc1 : (k : Int) + 1 ≤ (c : Int) := by omega
  have ew : IntKind.i64.wrap ((k : Int) + 1) = (k : Int) + 1 := IntWalk.i64_in _ (by omega)
  have e2 : ((k : Int) + 1).toNat = k + 1 := by omega
  have hkn : k ≤ c := by omega
  have hkn2 : k + 1 ≤ c := by omega
  have hkn3 : k + 1 ≤ L.length := by omega
  have HC3 : Hid (c = k + 1 → ∀ (ad : Addr) j u, (flat due (L.drop (k + 1)))[j]? = some u → w.cell? (ad.add j) = some u) := Lib.hid (fun hck ad j u hu => by
    rw [List.drop_eq_nil_of_le (by omega)] at hu
    simp [flat] at hu)
  have hb := World.block_lt_of_cell? _ _ (hcell 0 (.int .i64 (L[0]'(by omega)).1) (flat_due_at (List.getElem?_eq_getElem (show 0 < L.length by omega))).1)
  have HBLK := Lib.hid hb
  have HEND : Hid (∀ v1 w1 v2 w2, (w1.ownsRow 0 53 2 v1 ([] ++ L.take k).length (flat due ([] ++ L.take k)) ∧ (w.alloc (Obj.cells #[] 53)).drew.grownBy w1 (Value.slice (some { block := w.heap.size, off := 0 }) 0 0).ownBlock ∧
        (v1.ownBlock = (Value.slice (some { block := w.heap.size, off := 0 }) 0 0).ownBlock ∨ v1.ownBlock = some (w.alloc (Obj.cells #[] 53)).drew.heap.size)) →
      Below w.heap.size w w1 ∧ (∀ g, v1.ownBlock = some g → w.heap.size ≤ g) ∧ ((w2.ownsRow 0 53 2 v2 (L.take k ++ L.drop (k + 1)).length (flat due (L.take k ++ L.drop (k + 1))) ∧ w1.grownBy w2 v1.ownBlock ∧ (v2.ownBlock = v1.ownBlock ∨ v2.ownBlock = some w1.heap.size)) →
        Rd due w2 v2 (L.eraseIdx k) ∧ (∀ g, v2.ownBlock = some g → w.heap.size ≤ g ∧ g < w2.heap.size) ∧ Below w.heap.size w w2)) := Lib.hid (by
    rintro v1 w1 v2 w2 ⟨o1, g1, a1⟩
    have b0 : Below w.heap.size w (w.alloc (Obj.cells #[] 53)).drew := ((Below.refl _ w).alloc (Nat.le_refl _) _).drew
    have b1 : Below w.heap.size w w1 := b0.grown g1 b0.size (fun k hk => by simp [Value.ownBlock] at hk; omega)
    have f1 : ∀ g, v1.ownBlock = some g → w.heap.size ≤ g := by
      intro g hg
      rcases a1 with e | e
      · rw [e] at hg; simp [Value.ownBlock] at hg; omega
      · rw [e] at hg; simp at hg; omega
    refine ⟨b1, f1, ?_⟩
    rintro ⟨o2, g2, a2⟩
    refine ⟨?_, ?_, b1.grown g2 b1.size (fun k hk => f1 k hk)⟩
    · rw [List.eraseIdx_eq_take_drop_succ]
      exact Rd.of_own due_length o2
    · intro g hg
      refine ⟨?_, own_lt o2 hg⟩
      rcases a2 with e | e
      · rw [e] at hg; exact f1 g hg
      · rw [e] at hg; injection hg with hg; have := b1.size; omega)
  clear h3 hcell hc1 hc2 hlt hld hb
  by_cases hck : c = k + 1
  · have HCK := Lib.hid hck
    clear hck
    go_enter Try.func33, Try.ntmps33
    go_wp2_with fail
    go_region_law (first
      | (refine step_append rfl _ _ rfl (.slice (some ⟨w.heap.size, 0, none⟩) 0 0) [] (L.take k) ⟨b, o, none⟩ _ rfl (by rw [HLT.out]; rfl) (by first | exact own_nil _ | exact own_nil_drew _) (fun j u hu => cell_later' (((Below.refl _ w).alloc (Nat.le_refl _) _).drew) (HC1.out j u hu)) (by rw [HLT.out]; simp; omega) ?_
         intro v1 w1 hown hg hat
         have H1 := Lib.hid (And.intro hown (And.intro hg hat))
         clear hown hg hat)
      | (refine step_append rfl _ _ rfl v1 (L.take k) (L.drop (k + 1)) ⟨b, o, none⟩ _ rfl (by rw [HLD.out]; show Value.slice (if c = k + 1 then _ else _) _ _ = _; rw [if_pos HCK.out]) H1.out.1 (fun j u hu => cell_later' (HEND.out v1 w1 v1 w1 H1.out).1 (HC3.out HCK.out _ j u hu)) (by rw [HLT.out, HLD.out]; omega) ?_
         intro v2 w2 hown hg hat
         have H2 := Lib.hid (And.intro hown (And.intro hg hat))
         clear hown hg hat))
    go_wp2_with fail
    go_ret
    exact ⟨_, rfl, (HEND.out v1 w1 v2 w2 H1.out).2.2 H2.out⟩
  · go_enter Try.func33, Try.ntmps33
    go_wp2_with fail
    go_region_law (first
      | (refine step_append rfl _ _ rfl (.slice (some ⟨w.heap.size, 0, none⟩) 0 0) [] (L.take k) ⟨b, o, none⟩ _ rfl (by rw [HLT.out]; rfl) (by first | exact own_nil _ | exact own_nil_drew _) (fun j u hu => cell_later' (((Below.refl _ w).alloc (Nat.le_refl _) _).drew) (HC1.out j u hu)) (by rw [HLT.out]; simp; omega) ?_
         intro v1 w1 hown hg hat
         have H1 := Lib.hid (And.intro hown (And.intro hg hat))
         clear hown hg hat)
      | (refine step_append rfl _ _ rfl v1 (L.take k) (L.drop (k + 1)) _ _ rfl (by rw [HLD.out]; rfl) H1.out.1 (fun j u hu => cell_later' (HEND.out v1 w1 v1 w1 H1.out).1 (HC2.out j u hu)) (by rw [HLT.out, HLD.out]; omega) ?_
         intro v2 w2 hown hg hat
         have H2 := Lib.hid (And.intro hown (And.intro hg hat))
         clear hown hg hat))
    go_wp2_with fail
    go_ret
    exact ⟨_, rfl, (HEND.out v1 w1 v2 w2 H1.out).2.2 H2.out⟩
end Go.Proofs.Ytcnifhkgibopbaa
