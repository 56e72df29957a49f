/- AlarmMoves: the walk. -/
import Derived.Test.YtcnifhkgibopbaaAlarmO
import Derived.Test.YtcnifhkgibopbaaMoveP
import Derived.Test.YtcnifhkgibopbaaListW
set_option linter.unusedVariables false
set_option linter.unusedSimpArgs false
namespace Go.Proofs.Ytcnifhkgibopbaa
open Go.RowKit Go.MapKept Go.ChangeMaps

/-- What the three calls tell. -/
theorem moves_facts {L : List D2} (hx : ∃ m, Idx L m) (id at_ : Int) (hu2 : Uq (movL L id at_).1) : ∃ mv th : Bool, (movL L id at_).2 = mv ∧ (tickOf L id).isSome = th ∧ (tickOf (movL L id at_).1 id).isSome = th ∧
    (mv = true → (tickOf (movL L id at_).1 id).getD 0 = at_) ∧ ((mv = true ∧ th = true) ∨ (mv = false ∧ th = true) ∨ (mv = false ∧ th = false)) ∧
    ∀ d ∈ L, (tickOf (movL L id at_).1 d.2).isSome = true ∧ (d.2 ≠ id → (tickOf (movL L id at_).1 d.2).getD 0 = d.1) := by
  obtain ⟨h1, h2, h3⟩ := mov_tick hx id at_ hu2
  have hu : Uq L := by obtain ⟨m, hx⟩ := hx; exact hx.uq
  have h4 : (tickOf (movL L id at_).1 id).isSome = (tickOf L id).isSome := by
    cases hm : (movL L id at_).2
    · rw [h2 hm]
    · rw [(h1 hm).2, (h1 hm).1]; rfl
  refine ⟨_, _, rfl, rfl, h4, fun hm => by rw [(h1 hm).2]; rfl, ?_, fun d hd => ?_⟩
  · cases hm : (movL L id at_).2
    · cases (tickOf L id).isSome <;> simp
    · simp [(h1 hm).1]
  · have ht : tickOf L d.2 = some d.1 := (tick_iff hu _ _).2 hd
    by_cases he : d.2 = id
    · refine ⟨?_, fun hne => absurd he hne⟩
      rw [he, h4, ← he, ht]; rfl
    · rw [h3 _ he, ht]
      exact ⟨rfl, fun _ => rfl⟩

set_option maxRecDepth 100000 in
set_option maxHeartbeats 1600000 in
theorem moves_walk (v : Value) (l : List O3) (id at_ : Int) (w : World) (h : Rd op3 w v l) (hok : ∀ o ∈ l, iok o.2.2) (hid : iok id) :
    Calls Try.prog 7 #[v, .int .i64 id, .int .i64 at_] w fun e w' => e = .returned (.bool true) ∧ Below w.heap.size w w' := by
  have hu := Try.underlying33
  have HH := Lib.hid h
  have HOK := Lib.hid hok
  have HID := Lib.hid hid
  obtain ⟨A, c, rfl, h1, h2, h3⟩ := h
  clear h3 hok hid
  by_cases hlen : 200 < l.length
  · go_enter Try.func7, Try.ntmps7
    go_wp2_with fail
    refine (new_any _).mono ?_
    rintro e w1 ⟨pa, S1, rfl, ha1, hs1, hb1⟩
    have HB1 := Lib.hid hb1
    clear ha1 hs1 hb1
    go_wp2_with fail
    refine (alive_any _).mono ?_
    rintro e w2 ⟨rfl, hb2⟩
    go_wp2_with fail
    go_ret
    exact ⟨rfl, HB1.out.trans (hb2.mono HB1.out.size)⟩
  · go_enter Try.func7, Try.ntmps7
    go_wp2_with fail
    refine (new_any _).mono ?_
    rintro e w1 ⟨pa, S1, rfl, ha1, hs1, hb1⟩
    have H1 := Lib.hid (And.intro ha1 (And.intro hs1 hb1))
    clear ha1 hs1 hb1
    go_wp2_with fail
    go_loopw [38] (fun i wr => ScriptR w pa l.length i wr) (fun i wr => l.length - (intOf i).toNat)
    case atStart => exact ⟨0, [], 0, S1, rfl, Nat.zero_le _, H1.out.1, St.nil, H1.out.2.1, H1.out.2.2⟩
    case round =>
      obtain ⟨k, L, last, S, rfl, hk, hA, hS, hsub, hB⟩ := hrel
      have HA := Lib.hid hA
      have HS := Lib.hid hS
      have HSUB := Lib.hid hsub
      have HB := Lib.hid hB
      clear hA hS hsub hB
      by_cases hkl : k < l.length
      · obtain ⟨o, ho⟩ : ∃ o, l[k]? = some o := ⟨_, List.getElem?_eq_getElem hkl⟩
        obtain ⟨b, p, c', hv, c0, c1, c2⟩ := (HH.out.below HB.out).op_at ho
        cases hv
        have hkl' : (k : Int) < (l.length : Int) := by omega
        have hoi := HOK.out o (List.mem_of_getElem? ho)
        have lb := World.block_lt_of_cell? _ _ c0
        have HOI := Lib.hid hoi
        clear ho hoi
        go_wp2_with fail
        refine (does_any pa o.1 o.2.1 o.2.2 L last S k _ (HA.out.below ((Below.refl _ _).alloc (Nat.le_refl _) _)) HS.out (by omega) HOI.out).mono ?_
        rintro e w2 ⟨v2, S2, rfl, _, _, h2, hs2, ho2⟩
        have hb2 : Below w.heap.size w w2 := below_of_only (HB.out.alloc HB.out.size _) ho2 (by have := HB.out.size; simp; omega) HSUB.out
        have hs2' : ∀ k, S2 k → w.heap.size ≤ k := fun k hk => by
          rcases hs2 k hk with h | h
          · exact HSUB.out k h
          · have := HB.out.size; simp at h; omega
        have H2 := Lib.hid (And.intro h2 (And.intro hs2' hb2))
        clear h2 hs2 ho2 hb2 hs2'
        go_wp2_with fail
        go_roundw
        case rel => exact ⟨k + 1, _, _, S2, by go_num, by omega, H2.out.1, HS.out.do_ HA.out.idx _ _ _, H2.out.2.1, H2.out.2.2⟩
        case measure => simp [intOf]; omega
      · have hll : L.length ≤ 200 := by have := HS.out.len; omega
        have HLL := Lib.hid hll
        clear hll
        go_wp2_with fail
        refine (list_any pa L last S _ HA.out (by have := HLL.out; omega)).mono ?_
        rintro e w2 ⟨v2, rfl, hr2, hf2, hb2⟩
        have HF := Lib.hid (fun g hg hS => Nat.lt_irrefl _ (Nat.lt_of_lt_of_le (HA.out.low g hS) (hf2 g hg)))
        have HA2 := Lib.hid (HA.out.below hb2)
        have HB2 := Lib.hid (HB.out.trans (hb2.mono HB.out.size))
        obtain ⟨A2, c2, hv2, hlc, hlm, hcell⟩ := hr2
        rw [sortL_length] at hv2 hlc
        subst hv2
        have HR2 : Hid (Rd due w2 (.slice A2 L.length c2) (sortL L)) := Lib.hid ⟨A2, c2, by rw [sortL_length], by rw [sortL_length]; exact hlc, hlm, hcell⟩
        clear hb2 hcell hlm hlc
        go_wp2_with fail
        refine (when_any pa id L last S _ HA2.out HID.out).mono ?_
        rintro e w3 ⟨rfl, rfl⟩
        obtain ⟨th, hth⟩ : ∃ th, (tickOf L id).isSome = th := ⟨_, rfl⟩
        obtain ⟨n0, hn0⟩ : ∃ n0, (tickOf L id).getD 0 = n0 := ⟨_, rfl⟩
        rw [hth, hn0]
        have HTH := Lib.hid hth
        clear hth hn0
        go_wp2_with fail
        refine (move_any pa id at_ L last S _ HA2.out HID.out).mono ?_
        rintro e w4 ⟨rfl, h4, ho4⟩
        obtain ⟨mv, th2, hmv, hth2, his, hat, hcase, hall⟩ := moves_facts HA2.out.idx id at_ h4.uq
        rw [HTH.out] at hth2
        subst hth2
        rw [hmv]
        have HS4 := Lib.hid (mov_heap HS.out HA2.out.idx id at_)
        have HALL := Lib.hid hall
        have HIOK := Lib.hid (show ∀ d ∈ L, iok d.2 by obtain ⟨m, hx⟩ := HA2.out.idx; exact hx.ok)
        obtain ⟨L1, hL1⟩ : ∃ L1, (movL L id at_).1 = L1 := ⟨_, rfl⟩
        rw [hL1] at h4 his hat HALL HS4
        have HA4 := Lib.hid h4
        have HB4 := Lib.hid (below_of_only HB2.out ho4 HB2.out.size HSUB.out)
        have HR4 := Lib.hid (HR2.out.only ho4 HF.out)
        obtain ⟨n1, hn1⟩ : ∃ n1, (tickOf L1 id).getD 0 = n1 := ⟨_, rfl⟩
        have HIS := Lib.hid his
        have hq : mv = true → (n1 != at_) = false := fun h => by rw [← hn1, hat h]; simp
        have HN1 := Lib.hid hn1
        have HQ := Lib.hid hq
        clear h4 ho4 hmv his hat hall hL1 hn1 hq
        go_wp2_with fail
        refine (when_any pa id L1 last S _ HA4.out HID.out).mono ?_
        rintro e w5 ⟨rfl, rfl⟩
        rw [HIS.out, HN1.out]
        have HCASE := Lib.hid hcase
        rcases hcase with ⟨rfl, rfl⟩ | ⟨rfl, rfl⟩ | ⟨rfl, rfl⟩
        all_goals
          (try have hq1 := HQ.out rfl)
          go_wp2_with fail
          go_loopw [85] (fun jv wr => ∃ j : Nat, jv = .int .i64 j ∧ j ≤ L.length ∧ Below w4.heap.size w4 wr) (fun jv _ => L.length - (intOf jv).toNat)
          case atStart => exact ⟨0, rfl, Nat.zero_le _, Below.refl _ _⟩
          case round =>
            obtain ⟨j, rfl, hj, hbj⟩ := hrel
            have HBJ := Lib.hid hbj
            clear hbj
            have HAJ := Lib.hid (HA4.out.below HBJ.out)
            by_cases hjl : j < L.length
            · obtain ⟨d, hd⟩ : ∃ d, (sortL L)[j]? = some d := ⟨_, List.getElem?_eq_getElem (by rw [sortL_length]; exact hjl)⟩
              obtain ⟨b, o, c', hv, c0, c1⟩ := (HR4.out.below HBJ.out).at_ hd
              have hdL : d ∈ L := (sortL_perm L).mem_iff.1 (List.mem_of_getElem? hd)
              obtain ⟨hs1, hs2⟩ := HALL.out d hdL
              have hdi := HIOK.out d hdL
              have hjl' : (j : Int) < (L.length : Int) := by omega
              have hj200 : (j : Int) ≤ 200 := by have := HLL.out; omega
              rw [sortL_length] at hv
              simp only [Value.slice.injEq, true_and] at hv
              obtain ⟨rfl, rfl⟩ := hv
              have HS2 := Lib.hid hs2
              have lb := World.block_lt_of_cell? _ _ c0
              have HDI := Lib.hid hdi
              clear hd hdL hs2 hdi
              go_wp2_with fail
              refine (when_any pa d.2 L1 last S _ (HAJ.out.below ((Below.refl _ _).alloc (Nat.le_refl _) _)) HDI.out).mono ?_
              rintro e w6 ⟨rfl, rfl⟩
              rw [hs1]
              by_cases hdid : d.2 = id
              · have q1 : (d.2 != id) = false := by simp [hdid]
                generalize (tickOf L1 d.2).getD 0 = m1
                clear hdid
                go_wp2_with fail
                go_roundw
                case rel => exact ⟨j + 1, by go_num, by omega, (HBJ.out.alloc HBJ.out.size _)⟩
                case measure => simp [intOf]; omega
              · have q1 : (d.2 != id) = true := by simp [hdid]
                rw [HS2.out hdid]
                clear hdid
                go_wp2_with fail
                go_roundw
                case rel => exact ⟨j + 1, by go_num, by omega, (HBJ.out.alloc HBJ.out.size _)⟩
                case measure => simp [intOf]; omega
            · have q : ¬ (j : Int) < (L.length : Int) := by omega
              go_wp2_with fail
              refine (cancel_any pa id L1 last S _ HAJ.out HID.out).mono ?_
              rintro e w6 ⟨rfl, h6, ho6⟩
              obtain ⟨hc1, hc2⟩ := can_tick HAJ.out.idx id
              rw [hc1, HIS.out]
              have HA6 := Lib.hid h6
              have HB6 := Lib.hid (below_of_only (HB4.out.trans (HBJ.out.mono HB4.out.size)) ho6 (HB4.out.trans (HBJ.out.mono HB4.out.size)).size HSUB.out)
              have HS6 := Lib.hid (can_heap HS4.out id)
              have HC2 := Lib.hid hc2
              clear h6 ho6 hc1 hc2
              go_wp2_with fail
              refine (when_any pa id _ last S _ HA6.out HID.out).mono ?_
              rintro e w7 ⟨rfl, rfl⟩
              rw [HC2.out]
              simp only [Option.getD_none, Option.isSome_none]
              go_wp2_with fail
              refine (alive_any _).mono ?_
              rintro e w8 ⟨rfl, hb8⟩
              have HA8 := Lib.hid (HA6.out.below hb8)
              have HB8 := Lib.hid (HB6.out.trans (hb8.mono HB6.out.size))
              clear hb8
              go_wp2_with fail
              refine (check_any pa _ last S _ HA8.out HS6.out.heap).mono ?_
              rintro e w9 ⟨rfl, hb9⟩
              go_wp2_with fail
              go_ret
              exact ⟨rfl, HB8.out.trans (hb9.mono HB8.out.size)⟩
end Go.Proofs.Ytcnifhkgibopbaa
