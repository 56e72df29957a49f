/- Lists that are read; the walks of rows and Same. -/
import Derived.Test.YtcnifhkgibopbaaAlarmG
import Derived.Test.YtcnifhkgibopbaaRead
set_option linter.unusedVariables false
set_option linter.unusedSimpArgs false
namespace Go.Proofs.Ytcnifhkgibopbaa
open Go.RowKit Go.MapKept Go.ChangeMaps

theorem Rd.at_ {w : World} {v : Value} {L : List D2} (h : Rd due w v L) {k : Nat} {d : D2} (hk : L[k]? = some d) : ∃ b o c, v = .slice (some ⟨b, o, none⟩) L.length c ∧ w.cell? ⟨b, o + k * 2, none⟩ = some (.int .i64 d.1) ∧ w.cell? ⟨b, o + k * 2 + 1, none⟩ = some (.int .i64 d.2) := by
  obtain ⟨A, c, rfl, h1, h2, h3⟩ := h
  obtain ⟨b, o, rfl, hc⟩ := h3 (by have := (List.getElem?_eq_some_iff.1 hk).1; omega)
  have h4 := flat_due_at hk
  exact ⟨b, o, c, rfl, hc _ _ h4.1, by rw [Nat.add_assoc]; exact hc _ _ h4.2⟩

theorem Try.infoRDue : (Try.prog.info? 53).map (fun i => (i.zero, i.size, i.bytes)) = some (some (.agg #[.int .i64 0, .int .i64 0]), 2, 16) := by kernel_rfl
/-- What the loop of rows knows. -/
def RowsR (w : World) (L : List D2) (v i : Value) (wr : World) : Prop :=
  ∃ (k : Nat), i = .int .i64 k ∧ k ≤ L.length ∧ wr.ownsRow 0 53 2 v k (flat due (L.take k)) ∧ (∀ g, v.ownBlock = some g → w.heap.size ≤ g) ∧ Below w.heap.size w wr

set_option maxRecDepth 100000 in
set_option maxHeartbeats 400000 in
theorem rows_any (v : Value) (L : List D2) (w : World) (h : Rd due w v L) (hl : L.length ≤ 1000000) :
    Calls Try.prog 19 #[v] w fun e w' => ∃ v', e = .returned v' ∧ w'.ownsRow 0 53 2 v' L.length (flat due L) ∧ (∀ g, v'.ownBlock = some g → w.heap.size ≤ g) ∧ Below w.heap.size w w' := by
  have HH := Lib.hid h
  obtain ⟨A, c, rfl, h1, h2, h3⟩ := h
  clear h3 h2
  go_enter Try.func19, Try.ntmps19
  go_wp2_with fail
  go_loopw [3, 8] (fun v i wr => RowsR w L v i wr) (fun _ i wr => L.length - (intOf i).toNat)
  case atStart =>
    exact ⟨0, rfl, Nat.zero_le _, World.ownsRow_nil _ _ _ _, fun g hg => by simp [Value.ownBlock] at hg, Below.refl _ _⟩
  case round =>
    obtain ⟨k, rfl, hk, hown, hne, hB⟩ := hrel
    have HOWN := Lib.hid hown
    have HNE := Lib.hid hne
    have HB := Lib.hid hB
    clear hown hne hB
    by_cases hkl : k < L.length
    · obtain ⟨d, hd⟩ : ∃ d, L[k]? = some d := ⟨_, List.getElem?_eq_getElem hkl⟩
      obtain ⟨b, o, c', hv, c0, c1⟩ := (HH.out.below HB.out).at_ hd
      cases hv
      have lb := World.block_lt_of_cell? _ _ c0
      have HD := Lib.hid hd
      clear hd
      go_wp2_with (first | (at_builtin; refine holdL ?_))
      refine HoldL.go ?_
      refine append_one rfl _ _ 39 53 (.agg #[.int .i64 0, .int .i64 0]) 2 16 rfl Try.underlying39 Try.infoRDue rfl (by omega) (by omega) u3 k (flat due (L.take k)) #[.int .i64 d.1, .int .i64 d.2] (wr.heap.size + 1) rfl rfl (by simp) rfl (by simp [Value.oneCell']) (HOWN.out.alloc _) (by omega) ?_
      intro v1 w2 hown2 hg2 hat2
      go_wp2_with fail
      go_roundw
      case rel =>
        have e : flat due (L.take (k + 1)) = flat due (L.take k) ++ [.int .i64 d.1, .int .i64 d.2] := by
          rw [List.take_add_one, HD.out, flat_append]; rfl
        refine ⟨k + 1, by go_num, by omega, by rw [e]; exact hown2, ?_, ?_⟩
        · intro g hg
          rcases hat2 with e | e
          · rw [e] at hg; exact HNE.out g hg
          · rw [e] at hg
            injection hg with hg
            have := HB.out.size
            simp at hg
            omega
        · exact (HB.out.alloc HB.out.size _).grown hg2 (by have := HB.out.size; simp; omega) fun g hg => HNE.out g hg
      case measure => simp [intOf]; omega
    · go_wp2_with fail
      go_ret
      obtain rfl : k = L.length := by omega
      have := HOWN.out
      rw [List.take_length] at this
      exact ⟨u3, rfl, this, HNE.out, HB.out⟩

set_option maxRecDepth 100000 in
set_option maxHeartbeats 400000 in
theorem same_any (a b : Value) (L M : List D2) (w : World) (ha : Rd due w a L) (hb : Rd due w b M) :
    Calls Try.prog 18 #[a, b] w fun e w' => e = .returned (.bool (decide (L = M))) ∧ Below w.heap.size w w' := by
  have hu := Try.underlying53
  have HA := Lib.hid ha
  have HB := Lib.hid hb
  obtain ⟨A, c, rfl, h1, h2, h3⟩ := ha
  obtain ⟨B, c', rfl, k1, k2, k3⟩ := hb
  clear h3 k3
  by_cases hl : L.length = M.length
  · have hne : ((L.length : Int) != (M.length : Int)) = false := bne_eq_false_iff_eq.mpr (by omega)
    have HL := Lib.hid hl
    clear hl
    go_enter Try.func18, Try.ntmps18
    go_wp2_with fail
    go_loopw [5] (fun i wr => ∃ (k : Nat), i = .int .i64 k ∧ k ≤ L.length ∧ Hid (L.take k = M.take k) ∧ ∃ n, wr = w.drewN n) (fun i wr => L.length - (intOf i).toNat)
    case atStart => exact ⟨0, rfl, Nat.zero_le _, Lib.hid rfl, 0, rfl⟩
    case round =>
      obtain ⟨k, rfl, hk, HT, n, rfl⟩ := hrel
      by_cases hkl : k < L.length
      · obtain ⟨d, hd⟩ : ∃ d, L[k]? = some d := ⟨_, List.getElem?_eq_getElem hkl⟩
        obtain ⟨d', hd'⟩ : ∃ d, M[k]? = some d := ⟨_, List.getElem?_eq_getElem (by have := HL.out; omega)⟩
        obtain ⟨b, o, c2, hv, c0, c1⟩ := HA.out.at_ hd
        cases hv
        obtain ⟨b', o', c3, hv, c0', c1'⟩ := HB.out.at_ hd'
        cases hv
        have hkm : (k : Int) < (M.length : Int) := by have := HL.out; omega
        have hkl' : (k : Int) < (L.length : Int) := by omega
        have HD := Lib.hid (And.intro hd hd')
        clear hd hd'
        by_cases hdd : d = d'
        · subst hdd
          go_wp2_with fail
          go_quiet (fail)
          go_wp2_with fail
          go_roundw
          case rel => exact ⟨k + 1, by go_num, by omega, Lib.hid (by rw [List.take_add_one, List.take_add_one, HD.out.1, HD.out.2, HT.out]), _, rfl⟩
          case measure => simp [intOf]; omega
        · have hfin : L ≠ M := fun e => hdd (by have h := HD.out; rw [e] at h; have := h.1.symm.trans h.2; injection this)
          have HDD := Lib.hid hfin
          by_cases h1 : d.1 = d'.1
          · have h2 : d.2 ≠ d'.2 := fun h2 => hdd (Prod.ext h1 h2)
            have q1 : (d.1 == d'.1) = true := by simpa using h1
            have q2 : (d.2 == d'.2) = false := by simpa using h2
            clear hdd h1 h2 hfin
            go_wp2_with fail
            go_quiet (fail)
            go_wp2_with fail
            go_ret
            exact ⟨by simp [HDD.out], by first | exact below_drewN (Below.refl _ _) _ | exact below_drewN (below_drewN (Below.refl _ _) _) _⟩
          · have q1 : (d.1 == d'.1) = false := by simpa using h1
            clear hdd h1 hfin
            go_wp2_with fail
            go_quiet (fail)
            go_wp2_with fail
            go_ret
            exact ⟨by simp [HDD.out], by first | exact below_drewN (Below.refl _ _) _ | exact below_drewN (below_drewN (Below.refl _ _) _) _⟩
      · go_wp2_with fail
        go_ret
        refine ⟨?_, below_drewN (Below.refl _ _) _⟩
        have e1 := HT.out
        have e2 := HL.out
        rw [List.take_of_length_le (by omega), List.take_of_length_le (by omega)] at e1
        simp [e1]
  · have hne : ((L.length : Int) != (M.length : Int)) = true := bne_iff_ne.mpr (by omega)
    have HL := Lib.hid hl
    clear hl
    go_enter Try.func18, Try.ntmps18
    go_wp2_with fail
    go_ret
    refine ⟨?_, Below.refl _ _⟩
    have : L ≠ M := fun e => HL.out (by rw [e])
    simp [this]
end Go.Proofs.Ytcnifhkgibopbaa
