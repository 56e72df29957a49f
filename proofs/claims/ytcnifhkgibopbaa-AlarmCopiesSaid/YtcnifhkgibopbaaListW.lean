/- AlarmList: the walk. -/
import Derived.Test.YtcnifhkgibopbaaAlarmO
import Derived.Test.YtcnifhkgibopbaaNextW
set_option linter.unusedVariables false
set_option linter.unusedSimpArgs false
namespace Go.Proofs.Ytcnifhkgibopbaa
open Go.RowKit Go.MapKept Go.ChangeMaps

theorem le_antisymm' {a b : D2} (h : le a b) (k : le b a) : a = b := by
  unfold le at *
  exact Prod.ext (by omega) (by omega)
theorem sorted_eq {L R : List D2} (hp : R.Perm L) (hs : R.Pairwise le) : R = sortL L :=
  List.Perm.eq_of_pairwise (fun a b _ _ h k => le_antisymm' h k) hs (sortL_pair L) (hp.trans (sortL_perm L).symm)
/-- All that are set are taken at the last tick, in order. -/
theorem take_all {L : List D2} {last : Int} {n : Nat} (h : St L last n) : takeL L.length 1099511627776 L = (sortL L, []) := by
  obtain ⟨h1, h2, h3, h4, _⟩ := take_spec L.length 1099511627776 L (Nat.le_refl _) h.heap
  have e : (takeL L.length 1099511627776 L).2 = [] := by
    apply List.eq_nil_iff_forall_not_mem.2
    intro d hd
    have hm : d ∈ L := h1.mem_iff.1 (List.mem_append_right _ hd)
    have := h4 d hd
    have := (h.ticks d hm).2
    omega
  rw [e, List.append_nil] at h1
  exact Prod.ext (sorted_eq h1 h2) e
theorem sortL_length (L : List D2) : (sortL L).length = L.length := (sortL_perm L).length_eq

theorem Rd.only {α : Type} {f : α → List Value} {S : Nat → Prop} {w w' : World} {v : Value} {L : List α} (h : Rd f w v L) (ho : Only S w w') (hs : ∀ g, v.ownBlock = some g → ¬ S g) : Rd f w' v L := by
  obtain ⟨A, c, rfl, h1, h2, h3⟩ := h
  refine ⟨A, c, rfl, h1, h2, fun hp => ?_⟩
  obtain ⟨b, o, rfl, hc⟩ := h3 hp
  refine ⟨b, o, rfl, fun j u hu => ?_⟩
  have hcell := hc j u hu
  have hb := World.block_lt_of_cell? _ _ hcell
  rw [World.cell?_of_block (w := w) (ho.block b hb (hs b rfl))]
  exact hcell
theorem Alm.low {w : World} {pa : Nat} {L : List D2} {last : Int} {S : Nat → Prop} (h : Alm w pa L last S) : ∀ k, S k → k < w.heap.size := by
  obtain ⟨mb, v, m, hw, hx⟩ := h
  exact hw.low
set_option maxRecDepth 100000 in
set_option maxHeartbeats 800000 in
theorem list_walk (v : Value) (l : List O3) (w : World) (h : Rd op3 w v l) (hok : ∀ o ∈ l, iok o.2.2) :
    Calls Try.prog 8 #[v] w fun e w' => e = .returned (.bool true) ∧ Below w.heap.size w w' := by
  have hu := Try.underlying33
  have HH := Lib.hid h
  have HOK := Lib.hid hok
  obtain ⟨A, c, rfl, h1, h2, h3⟩ := h
  clear h3 hok
  by_cases hlen : 200 < l.length
  · go_enter Try.func8, Try.ntmps8
    go_wp2_with fail
    refine (new_any _).mono ?_
    rintro e w1 ⟨pa, S1, rfl, ha1, hs1, hb1⟩
    have HB1 := Lib.hid hb1
    clear ha1 hs1 hb1
    go_wp2_with fail
    refine (alive_any _).mono ?_
    rintro e w2 ⟨rfl, hb2⟩
    go_wp2_with fail
    go_ret
    exact ⟨rfl, HB1.out.trans (hb2.mono HB1.out.size)⟩
  · go_enter Try.func8, Try.ntmps8
    go_wp2_with fail
    refine (new_any _).mono ?_
    rintro e w1 ⟨pa, S1, rfl, ha1, hs1, hb1⟩
    have H1 := Lib.hid (And.intro ha1 (And.intro hs1 hb1))
    clear ha1 hs1 hb1
    go_wp2_with fail
    go_loopw [23] (fun i wr => ScriptR w pa l.length i wr) (fun i wr => l.length - (intOf i).toNat)
    case atStart => exact ⟨0, [], 0, S1, rfl, Nat.zero_le _, H1.out.1, St.nil, H1.out.2.1, H1.out.2.2⟩
    case round =>
      obtain ⟨k, L, last, S, rfl, hk, hA, hS, hsub, hB⟩ := hrel
      have HA := Lib.hid hA
      have HS := Lib.hid hS
      have HSUB := Lib.hid hsub
      have HB := Lib.hid hB
      clear hA hS hsub hB
      by_cases hkl : k < l.length
      · obtain ⟨o, ho⟩ : ∃ o, l[k]? = some o := ⟨_, List.getElem?_eq_getElem hkl⟩
        obtain ⟨b, p, c', hv, c0, c1, c2⟩ := (HH.out.below HB.out).op_at ho
        cases hv
        have hkl' : (k : Int) < (l.length : Int) := by omega
        have hoi := HOK.out o (List.mem_of_getElem? ho)
        have lb := World.block_lt_of_cell? _ _ c0
        have HOI := Lib.hid hoi
        clear ho hoi
        go_wp2_with fail
        refine (does_any pa o.1 o.2.1 o.2.2 L last S k _ (HA.out.below ((Below.refl _ _).alloc (Nat.le_refl _) _)) HS.out (by omega) HOI.out).mono ?_
        rintro e w2 ⟨v2, S2, rfl, _, _, h2, hs2, ho2⟩
        have hb2 : Below w.heap.size w w2 := below_of_only (HB.out.alloc HB.out.size _) ho2 (by have := HB.out.size; simp; omega) HSUB.out
        have hs2' : ∀ k, S2 k → w.heap.size ≤ k := fun k hk => by
          rcases hs2 k hk with h | h
          · exact HSUB.out k h
          · have := HB.out.size; simp at h; omega
        have H2 := Lib.hid (And.intro h2 (And.intro hs2' hb2))
        clear h2 hs2 ho2 hb2 hs2'
        go_wp2_with fail
        go_roundw
        case rel => exact ⟨k + 1, _, _, S2, by go_num, by omega, H2.out.1, HS.out.do_ HA.out.idx _ _ _, H2.out.2.1, H2.out.2.2⟩
        case measure => simp [intOf]; omega
      · have hll : L.length ≤ 200 := by have := HS.out.len; omega
        have HLL := Lib.hid hll
        clear hll
        go_wp2_with fail
        refine (list_any pa L last S _ HA.out (by have := HLL.out; omega)).mono ?_
        rintro e w2 ⟨v2, rfl, hr2, _, hb2⟩
        have HA2 := Lib.hid (HA.out.below hb2)
        have HB2 := Lib.hid (HB.out.trans (hb2.mono HB.out.size))
        have HR2 := Lib.hid hr2
        clear hb2 hr2
        go_wp2_with fail
        refine (rows_any v2 (sortL L) _ HR2.out (by rw [sortL_length]; have := HLL.out; omega)).mono ?_
        rintro e w3 ⟨v3, rfl, hown3, hf3, hb3⟩
        have HF3 := Lib.hid (fun g hg hS => Nat.lt_irrefl _ (Nat.lt_of_lt_of_le (HA2.out.low g hS) (hf3 g hg)))
        clear hf3
        have HA3 := Lib.hid (HA2.out.below hb3)
        have HB3 := Lib.hid (HB2.out.trans (hb3.mono HB2.out.size))
        have HR3 := Lib.hid (Rd.of_own due_length hown3)
        obtain ⟨A3, c3, hv3, _⟩ := HR3.out
        rw [sortL_length] at hv3
        subst hv3
        clear hb3 hown3
        go_wp2_with fail
        refine (len_any pa L last S _ HA3.out).mono ?_
        rintro e w4 ⟨rfl, rfl⟩
        go_wp2_with fail
        refine (alive_any _).mono ?_
        rintro e w5 ⟨rfl, hb5⟩
        have HA5 := Lib.hid (HA3.out.below hb5)
        have HB5 := Lib.hid (HB3.out.trans (hb5.mono HB3.out.size))
        have HR5 := Lib.hid (HR3.out.below hb5)
        clear hb5
        go_wp2_with fail
        refine (take_any pa 1099511627776 L last S _ HA5.out).mono ?_
        rintro e w6 ⟨v6, rfl, hown6, hs6, h6, ho6⟩
        rw [take_all HS.out] at hown6 h6
        have HR6 := Lib.hid (HR5.out.only ho6 HF3.out)
        have HT6 := Lib.hid (Rd.of_own due_length hown6)
        have HA6 := Lib.hid h6
        have HB6 := Lib.hid (below_of_only HB5.out ho6 HB5.out.size HSUB.out)
        clear hown6 hs6 h6 ho6
        go_wp2_with fail
        refine (rows_any v6 (sortL L) _ HT6.out (by rw [sortL_length]; have := HLL.out; omega)).mono ?_
        rintro e w7 ⟨v7, rfl, hown7, _, hb7⟩
        have HA7 := Lib.hid (HA6.out.below hb7)
        have HB7 := Lib.hid (HB6.out.trans (hb7.mono HB6.out.size))
        have HR7 := Lib.hid (HR6.out.below hb7)
        have HT7 := Lib.hid (Rd.of_own due_length hown7)
        clear hb7 hown7
        go_wp2_with fail
        refine (same_any v7 _ (sortL L) (sortL L) _ HT7.out HR7.out).mono ?_
        rintro e w8 ⟨rfl, hb8⟩
        rw [decide_eq_true rfl]
        have HA8 := Lib.hid (HA7.out.below hb8)
        have HB8 := Lib.hid (HB7.out.trans (hb8.mono HB7.out.size))
        clear hb8
        go_wp2_with fail
        refine (len_any pa [] last S _ HA8.out).mono ?_
        rintro e w9 ⟨rfl, rfl⟩
        go_wp2_with fail
        refine (list_any pa [] last S _ HA8.out (by simp)).mono ?_
        rintro e w10 ⟨v10, rfl, hr10, _, hb10⟩
        obtain ⟨A10, c10, hv10, _⟩ := hr10
        rw [sortL_length] at hv10
        subst hv10
        have HB10 := Lib.hid (HB8.out.trans (hb10.mono HB8.out.size))
        clear hb10
        go_wp2_with fail
        go_ret
        exact ⟨rfl, HB10.out⟩
end Go.Proofs.Ytcnifhkgibopbaa
