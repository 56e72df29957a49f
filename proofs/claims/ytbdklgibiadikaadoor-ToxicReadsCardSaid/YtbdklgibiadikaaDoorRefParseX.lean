/- What the walks of chicaneref09.Parse share. -/
import Derived.Test.YtbdklgibiadikaaDoorToxZ
import Derived.Test.YtbdklgibiadikaaDoorToxPlain
import Derived.Test.YtbdklgibiadikaaDoorToxZR
set_option linter.unusedVariables false
set_option linter.unusedSimpArgs false
namespace Go.Proofs.YtbdklgibiadikaaDoor.Tox
open Go.RowKit Go.Shelf Go.Proofs.YtbdklgibiadikaaDoor.Ext Go.Proofs.YtbdklgibiadikaaDoor.ToxRef Go.Proofs.YtbdklgibiadikaaDoorW.PrintWords Go.Proofs.YtbdklgibiadikaaDoorW.PrintLast

/-- The document's splitting tells the parts, each in its cell. -/
theorem refsplit_parts (s : ByteArray) (w : World) (hs : s.size ≤ 1000000000) :
    Calls Tryd.prog 35 #[.string s] w fun e w' => ∃ g cap, e = .returned (.slice (some ⟨g, 0, none⟩) (parts s).length cap) ∧
      (∀ j, j < (parts s).length → w'.cell? ⟨g, j, none⟩ = some (.string ((parts s).getD j ByteArray.empty))) ∧ w.heap.size ≤ g ∧ Below w.heap.size w w' := by
  refine (refsplit_own s w hs).mono ?_
  rw [Cut.spl_is]
  rintro e w' ⟨g, cap, rfl, hown, hg, hb⟩
  refine ⟨g, cap, rfl, fun j hj => ?_, hg, hb⟩
  obtain ⟨hl, h2⟩ := hown
  rcases h2 with ⟨h2, _⟩ | ⟨g', cap', cur, h3, _, hh, hn, _, hs, ht⟩
  · cases h2
  · simp only [Value.slice.injEq, Option.some.injEq, Addr.mk.injEq] at h3
    obtain ⟨⟨rfl, _⟩, _, rfl⟩ := h3
    rw [cell_of_cells hh, ← Array.getElem?_toList, ← List.getElem?_take_of_lt (show j < (parts s).length * 1 by omega), ht]
    simp [hj]
theorem below_alloc1 {w W : World} {o : Obj} (h : Below (w.alloc o).heap.size (w.alloc o) W) : Below w.heap.size w W :=
  ((Below.refl _ w).alloc (Nat.le_refl _) o).trans (h.mono (by simp))
theorem part_ne {l : List ByteArray} (h : (⟨#[]⟩ : ByteArray) ∉ l) (j : Nat) (hj : j < l.length) : ((l.getD j ByteArray.empty).toList == []) = false := by
  rw [Bool.eq_false_iff]
  intro h2
  apply h
  have e : l.getD j ByteArray.empty = l[j] := by simp [hj]
  rw [e, beq_iff_eq] at h2
  have : l[j] = ⟨#[]⟩ := (toList_eq_iff _ _).1 (by rw [h2, ByteArray.toList_eq])
  rw [← this]
  exact List.getElem_mem hj
theorem con_no {l : List ByteArray} (h : (⟨#[]⟩ : ByteArray) ∉ l) : Lib.containsS l ⟨#[]⟩ = false := by
  rw [Bool.eq_false_iff]
  intro h2
  exact h ((ToxPlain.contains_iff l _).1 h2)
/-- No part is longer than the text. -/
theorem cut_len (c : UInt8) : ∀ (l : List UInt8), ∀ x ∈ Cut.cutL c l, x.length ≤ l.length := by
  intro l
  induction l with
  | nil => intro x hx; simp [Cut.cutL] at hx; subst hx; exact Nat.le_refl _
  | cons b l ih =>
    intro x hx
    unfold Cut.cutL at hx
    split at hx
    · rcases List.mem_cons.1 hx with rfl | h
      · exact Nat.zero_le _
      · have := ih x h; simp; omega
    · split at hx
      · rename_i h; exact absurd h (Cut.cutL_ne c l)
      · rename_i y ys hq
        rw [hq] at ih
        rcases List.mem_cons.1 hx with rfl | h
        · have := ih y (by simp); simp; omega
        · have := ih x (by simp [h]); simp; omega
theorem parts_size (s : ByteArray) (hs : s.size ≤ 1000000000) : ∀ j, j < (parts s).length → ((parts s).getD j ByteArray.empty).size ≤ 4611686018427387904 := by
  intro j hj
  have e : (parts s).getD j ByteArray.empty = (parts s)[j] := by simp [hj]
  rw [e]
  have hm : (parts s)[j].data.toList ∈ (parts s).map (·.data.toList) := List.mem_map.2 ⟨_, List.getElem_mem hj, rfl⟩
  rw [Cut.parts_data] at hm
  have := cut_len 32 _ _ hm
  have e1 : (parts s)[j].size = (parts s)[j].data.toList.length := by cases (parts s)[j]; rfl
  have e2 : s.size = s.data.toList.length := by cases s; rfl
  omega
/-- The numbers that stand at the places from the fourth on. -/
def NV (l : List ByteArray) (i : Nat) : List Value := (List.range (i - 3)).map fun j => .int .i64 (pn l j)
theorem NV_succ (l : List ByteArray) (i : Nat) (h : 3 ≤ i) : NV l (i + 1) = NV l i ++ [.int .i64 (pn l (i - 3))] := by
  unfold NV
  rw [show i + 1 - 3 = (i - 3) + 1 by omega, List.range_succ, List.map_append]
  rfl
/-- What the second loop knows. -/
def RR (l : List ByteArray) (w1 : World) (nv jv : Value) (wr : World) : Prop :=
  ∃ (i : Nat) (nv' : Value), nv' = nv ∧ jv = .int .i64 i ∧ 3 ≤ i ∧ i ≤ l.length ∧ wr.ownsRow 0 3 1 nv (i - 3) (NV l i) ∧ (∀ b, nv.ownBlock = some b → w1.heap.size ≤ b) ∧ Below w1.heap.size w1 wr ∧ ∀ j, j + 3 < i → pe l j = 0
theorem refparse_end {tmps : Array Value} {W : World} {w : World} {cs : Array Value} {e : Value} {df : List Deferred} (hp : tmps.getD 2 undef = .pointer (some ⟨w.heap.size, 0, none⟩)) (he : tmps.getD 3 undef = e)
    (hg : W.heap[w.heap.size]? = some (.cells cs 23 (0, 0))) (hz : cs.size = 6) (hb : Below w.heap.size w W) (r : Res7) (hr : tup7 r = .tuple #[.agg cs, e]) (hdf : df = []) :
    bodyPost Tryd.prog Tryd.f18 (fun e w' => e = Ending.returned (tup7 r) ∧ Below w.heap.size w w') Exit.ret { tmps := tmps, defers := df } W := by
  subst hdf
  refine bodyPost_ret (v := .tuple #[.agg cs, e]) ?_ rfl ⟨by rw [hr], hb⟩
  rw [← he]
  exact results_ct rfl hp hg Tryd.underlying23 rfl (by rw [hz]; kernel_rfl)
end Go.Proofs.YtbdklgibiadikaaDoor.Tox

/- The contract of chicaneref09.Parse: the way up. -/
set_option linter.unusedVariables false
set_option linter.unusedSimpArgs false
namespace Go.Proofs.YtbdklgibiadikaaDoor.Tox
open Go.RowKit Go.Shelf Go.Proofs.YtbdklgibiadikaaDoor.Ext Go.Proofs.YtbdklgibiadikaaDoor.ToxRef Go.Proofs.YtbdklgibiadikaaDoorW.PrintWords Go.Proofs.YtbdklgibiadikaaDoorW.PrintLast
set_option maxHeartbeats 16000000 in
set_option maxRecDepth 100000 in
theorem refparse_up (s : ByteArray) (w : World) (hs : s.size ≤ 1000000000) (hl5 : ¬ (parts s).length < 5) (hl6 : ¬ 6 < (parts s).length) (hcon : ⟨#[]⟩ ∉ parts s) (hu : ((parts s).getD 2 ByteArray.empty).toList = [117, 112]) :
    Calls Tryd.prog 18 #[.string s] w fun e w' => e = .returned (tup7 (parseOf s)) ∧ Below w.heap.size w w' := by
  have HS := Lib.hid (fun w => refsplit_parts s w hs)
  have hsz := parts_size s hs
  unfold parseOf
  obtain ⟨l, hpl⟩ : ∃ l, parts s = l := ⟨_, rfl⟩
  rw [hpl] at hsz HS hl5 hl6 hcon hu
  rw [hpl]
  obtain ⟨x2, hx2⟩ : ∃ x2, l.getD 2 ByteArray.empty = x2 := ⟨_, rfl⟩
  rw [hx2] at hu
  have HX2 := Lib.hid hx2
  have HCON := Lib.hid hcon
  have HSZ := Lib.hid hsz
  have HL := Lib.hid (And.intro hl5 hl6)
  obtain ⟨r7, hr7⟩ : ∃ r7, parse1 l = r7 := ⟨_, rfl⟩
  rw [hr7]
  have HR7 := Lib.hid hr7
  clear hpl hs hsz hx2 hl5 hl6 hr7 hcon
  have hway := way_up hu
  go_enter Tryd.func18, Tryd.ntmps18
  go_wp2_with (first | (go_at_call 35; refine (HS.out _).mono ?_; rintro e w1 ⟨g, cap, rfl, hcell, hg, hb⟩; have HCELL := Lib.hid hcell; have HB0 := Lib.hid ((hb.block _ (by simp)).trans (heap_new w _)); have HW1 := Lib.hid (below_alloc1 hb); have HG := Lib.hid hg; clear hcell hb hg) | fail)
  go_loopw [5] (fun jv wr => ∃ j : Nat, jv = .int .i64 j ∧ j ≤ l.length ∧ w1 = wr) (fun jv _ => l.length - (intOf jv).toNat)
  case atStart => exact ⟨0, rfl, Nat.zero_le _, rfl⟩
  case round =>
    obtain ⟨j, rfl, hj, rfl⟩ := hrel
    by_cases hjn : j < l.length
    · have q3 : (j : Int) < (l.length : Int) := by omega
      have hj6 : (j : Int) ≤ 6 := by have := HL.out; omega
      have hcj := HCELL.out j hjn
      have hne : ((l.getD j ByteArray.empty).toList == []) = false := part_ne HCON.out j hjn
      obtain ⟨xj, hxj⟩ : ∃ xj, l.getD j ByteArray.empty = xj := ⟨_, rfl⟩
      rw [hxj] at hcj hne
      clear hxj
      go_wp2_with fail
      go_roundw
      case measure => simp [intOf]; omega
      · exact ⟨j + 1, by simp, by omega, trivial⟩
    · obtain rfl : j = l.length := by omega
      have q3 : ¬ (l.length : Int) < (l.length : Int) := by omega
      go_upto_region 7 with fail
      go_cut [4, 5, 33] (fun s4 s5 s33 wx => s4 = .slice (some ⟨g, 0, none⟩) l.length cap ∧ s33 = .bool false ∧ w1 = wx)
      case first =>
        have h56 : l.length = 5 ∨ l.length = 6 := by have := HL.out; omega
        rcases h56 with h56 | h56
        · have q5 : ((l.length : Int) != 5) = false := by simp [h56]
          have H56 := Lib.hid h56
          clear h56
          go_wp2_with fail
          go_meet
          exact ⟨by rw [H56.out], rfl, rfl⟩
        · have q5 : ((l.length : Int) != 5) = true := by simp [h56]
          have q6 : ((l.length : Int) != 6) = false := by simp [h56]
          have H56 := Lib.hid h56
          clear h56
          go_wp2_with fail
          go_meet
          exact ⟨by rw [H56.out], rfl, rfl⟩
      case rest =>
        obtain ⟨rfl, rfl, rfl⟩ := hcut
        have hc2 := HCELL.out 2 (by have := HL.out; omega)
        rw [HX2.out] at hc2
        have i2 : (2 : Int) < (l.length : Int) := by have := HL.out; omega
        go_wp2_with fail
        go_loopw [6, 7] (fun nv jv wr => RR l w1 nv jv wr) (fun _ jv _ => l.length - (intOf jv).toNat)
        case atStart => exact ⟨3, _, rfl, rfl, Nat.le_refl _, by have := HL.out; omega, ⟨rfl, .inl ⟨rfl, rfl⟩⟩, (fun b hb => by cases hb), Below.refl _ w1, fun i hi => absurd hi (by omega)⟩
        case round =>
          obtain ⟨i, nv, rfl, rfl, hi3, hil, hown, hnb, hbw, herr⟩ := hrel
          have HOWN := Lib.hid hown
          have HNB := Lib.hid hnb
          have HBW := Lib.hid hbw
          have HERR := Lib.hid herr
          clear hown hnb hbw herr hc2
          by_cases hjn : i < l.length
          · have q6 : (i : Int) < (l.length : Int) := by omega
            have hcj := cell_later HBW.out (HCELL.out i hjn)
            obtain ⟨xj, hxj⟩ : ∃ xj, l.getD i ByteArray.empty = xj := ⟨_, rfl⟩
            rw [hxj] at hcj
            have hsj : xj.size ≤ 4611686018427387904 := by rw [← hxj]; exact HSZ.out i hjn
            obtain ⟨r1, r2, hp⟩ : ∃ r1 r2, tickParse xj = (r1, r2) := ⟨_, _, rfl⟩
            have HP := Lib.hid (ToxZ.chicaneref01_Parse.calls xj r1 r2 wr (by rw [ToxZ.chicaneref01_Parse.f, if_pos hsj, hp]))
            have HXJ := Lib.hid hxj
            have HPP := Lib.hid hp
            have HIX := Lib.hid (show 3 + (i - 3) = i by omega)
            clear hxj hp hsj
            by_cases hr2 : r2 = 0
            · subst hr2
              go_wp2_with (first | (go_at_call 36; refine HP.out.mono ?_; rintro e w2 ⟨rfl, hb2⟩; have HB2 := Lib.hid hb2; clear hb2) | (at_builtin; refine holdL ?_) | fail)
              refine HoldL.go ?_
              have hl6 := HL.out
              refine append_one rfl _ _ 49 3 (.int .i64 0) 1 8 rfl Tryd.underlying49 (by kernel_rfl) rfl (by omega) (by omega) nv (i - 3) (NV l i) #[.int .i64 r1] w2.heap.size rfl rfl rfl rfl (by simp [Value.oneCell']) (pw_own_below HOWN.out HB2.out) (by omega) ?_
              intro v1 w3 hown2 hg2 hat2
              have hb3 : Below w1.heap.size w1 w3 := (HBW.out.trans (HB2.out.mono HBW.out.size)).grown hg2 (Nat.le_trans HBW.out.size HB2.out.size) HNB.out
              have hnb3 : ∀ b, v1.ownBlock = some b → w1.heap.size ≤ b := by
                intro b hb
                rcases hat2 with e | e
                · rw [e] at hb; exact HNB.out b hb
                · rw [e] at hb; have := Nat.le_trans HBW.out.size HB2.out.size; simp at hb; omega
              have hnv : NV l (i + 1) = NV l i ++ [.int .i64 r1] := by
                have h1 := HXJ.out
                have h2 := HPP.out
                have : pn l (i - 3) = r1 := by unfold pn; rw [HIX.out, h1, h2]
                rw [NV_succ l i hi3, this]
              have hown3 : w3.ownsRow 0 3 1 v1 (i + 1 - 3) (NV l (i + 1)) := by
                rw [hnv, show i + 1 - 3 = (i - 3) + 1 by omega]; exact hown2
              have herr3 : ∀ j, j + 3 < i + 1 → pe l j = 0 := by
                intro j hj
                by_cases hij : j + 3 = i
                · have h1 := HXJ.out
                  have h2 := HPP.out
                  unfold pe
                  rw [show 3 + j = i by omega, h1, h2]
                · exact HERR.out j (by omega)
              have HO3 := Lib.hid hown3
              have HB3 := Lib.hid hb3
              have HN3 := Lib.hid hnb3
              have HE3 := Lib.hid herr3
              clear hown2 hg2 hat2 hb3 hnb3 hnv hown3 herr3
              go_wp2_with fail
              go_roundw
              case measure => simp [intOf]; omega
              · exact ⟨i + 1, _, rfl, by simp, by omega, by omega, HO3.out, HN3.out, HB3.out, HE3.out⟩
            · have q4 : (r2 != 0) = true := by simpa using hr2
              have hb02 := (HBW.out.block _ (lt_of_heap HB0.out)).trans HB0.out
              have HB2 := Lib.hid hr2
              clear hr2
              go_wp2_with (first | (go_at_call 36; refine HP.out.mono ?_; rintro e w2 ⟨rfl, hb2⟩; have hbw2 := HBW.out.trans (hb2.mono HBW.out.size); have hr0 := (hb2.block _ (lt_of_heap hb02)).trans hb02; obtain ⟨z0, z1, z2, z3, z4, z5, zf⟩ := six_cells hr0) | fail)
              have hr7 := HR7.out
              have hl := HL.out
              rw [parse1_bad l (i - 3) hl (by omega) (by have h1 := HXJ.out; have h2 := HPP.out; unfold pe; rw [HIX.out, h1, h2]; exact HB2.out)] at hr7
              subst hr7
              exact refparse_end rfl rfl (six_set hr0) rfl (six_below (HW1.out.trans (hbw2.mono HW1.out.size))) _ rfl rfl
          · obtain rfl : i = l.length := by omega
            have q6 : ¬ (l.length : Int) < (l.length : Int) := by omega
            have hl := HL.out
            obtain ⟨gn, capn, rfl⟩ := own_form HOWN.out (by omega)
            obtain ⟨x0, hx0⟩ : ∃ x0, l.getD 0 ByteArray.empty = x0 := ⟨_, rfl⟩
            obtain ⟨x1, hx1⟩ : ∃ x1, l.getD 1 ByteArray.empty = x1 := ⟨_, rfl⟩
            have hc0 := cell_later HBW.out (HCELL.out 0 (by omega))
            have hc1 := cell_later HBW.out (HCELL.out 1 (by omega))
            have hc2 := cell_later HBW.out (HCELL.out 2 (by omega))
            rw [hx0] at hc0
            rw [hx1] at hc1
            rw [HX2.out] at hc2
            obtain ⟨nn, hnn⟩ : ∃ nn, l.length - 3 = nn := ⟨_, rfl⟩
            have hnv : ∀ j, j < nn → (NV l l.length)[j]? = some (.int .i64 (pn l j)) := by
              intro j hj
              unfold NV
              rw [List.getElem?_map, List.getElem?_range (by omega)]
              rfl
            obtain ⟨a0, ha0⟩ : ∃ a0, pn l 0 = a0 := ⟨_, rfl⟩
            obtain ⟨a1, ha1⟩ : ∃ a1, pn l 1 = a1 := ⟨_, rfl⟩
            rw [hnn] at HOWN
            rw [hnn]
            have hd0 : wr.cell? ⟨gn, 0, none⟩ = some (.int .i64 a0) := by rw [(own_cells HOWN.out 0 (by omega)).1, hnv 0 (by omega), ha0]
            have hd1 : wr.cell? ⟨gn, 1, none⟩ = some (.int .i64 a1) := by rw [(own_cells HOWN.out 1 (by omega)).1, hnv 1 (by omega), ha1]
            have HX0 := Lib.hid hx0
            have HX1 := Lib.hid hx1
            have HA0 := Lib.hid ha0
            have HA1 := Lib.hid ha1
            have HNV := Lib.hid hnv
            have HNN := Lib.hid hnn
            obtain ⟨kd, hkd⟩ : ∃ kd, kindOf x1 = kd := ⟨_, rfl⟩
            have HKC := Lib.hid (fun w => ToxZ.chicaneref09_Kind.calls x1 kd w (by rw [← hkd]; rfl))
            have HKD := Lib.hid hkd
            have i0 : 0 < l.length := by omega
            have i1 : (1 : Int) < (l.length : Int) := by omega
            have i2 : (2 : Int) < (l.length : Int) := by omega
            have m0 : 0 < nn := by omega
            have m1 : (1 : Int) < (nn : Int) := by omega
            have hn3 : nn ≤ 3 := by omega
            clear hx0 hx1 ha0 ha1 hnv hkd hl hnn
            have n1 : wr.heap.size ≠ g := World.new_ne wr _ hc0
            have n2 : wr.heap.size ≠ gn := World.new_ne wr _ hd0
            go_upto_region 19 with fail
            go_cut [10] (fun s10 wx' => ∃ (h : Nat) (wx : World), wx = wx' ∧ s10 = .pointer (some ⟨h, 0, none⟩) ∧ wx.heap[h]? = some (.cells #[.string x0, .int .i64 kd, .bool true, .int .i64 a0, .int .i64 a1, .int .i64 0] 23 (0, 0)) ∧ Below wr.heap.size wr wx ∧ wr.heap.size ≤ h)
            case first =>
              go_region_held3 (fun W => W.cell? ⟨g, 0, none⟩ = some (.string x0) ∧ W.cell? ⟨g, 1, none⟩ = some (.string x1) ∧ W.cell? ⟨g, 2, none⟩ = some (.string x2) ∧
                  W.cell? ⟨gn, 0, none⟩ = some (.int .i64 a0) ∧ W.cell? ⟨gn, 1, none⟩ = some (.int .i64 a1))
                (go_keep)
                (first | (go_at_call 23; refine (HKC.out _).mono ?_; rintro e w3 ⟨rfl, hb3⟩; obtain ⟨g0, g1, g2, g3, g4⟩ := ‹_ ∧ _ ∧ _ ∧ _ ∧ _›; have k0 := cell_later hb3 g0; have k1 := cell_later hb3 g1; have k2 := cell_later hb3 g2; have k3 := cell_later hb3 g3; have k4 := cell_later hb3 g4; have n3 := World.new_ne w3 _ k0; have n4 := World.new_ne w3 _ k3; have hbq := below_undrew hb3; have HBR : Hid (Below wr.heap.size wr w3) := Lib.hid (by first | (with_reducible exact hbq) | (with_reducible exact ((Below.refl _ wr).alloc (Nat.le_refl _) _).trans (hbq.mono (by simp)))); clear hbq; have HAL := Lib.hid (heap_new w3); (try (have hzr := (hb3.block wr.heap.size (by simp)).trans (heap_new wr _); have zz := six_cells (W := w3) (B := wr.heap.size) hzr; obtain ⟨z0, z1, z2, z3, z4, z5, zf⟩ := zz; have HZR := Lib.hid hzr; clear hzr))))
              all_goals
                go_wp2_with fail
                go_meet
                refine ⟨_, _, rfl, rfl, ?_, ?_, ?_⟩
                · first
                  | with_reducible exact HAL.out _
                  | with_reducible exact six_set HZR.out
                · first
                  | with_reducible exact fin_a HBR.out
                  | with_reducible exact six_below_at HBR.out
                · first
                  | with_reducible exact Nat.le_refl _
                  | with_reducible exact HBR.out.size
            case rest =>
              obtain ⟨h, wx, rfl, rfl, hg, hbx, hgl⟩ := hcut
              obtain ⟨y0, y1, y2, y3, y4, y5, yf⟩ := six_cells hg
              have HGX := Lib.hid hg
              have HBX := Lib.hid hbx
              have HGL := Lib.hid hgl
              clear hg hbx hgl n1 n2 hc0 hc1 hc2
              by_cases h6 : l.length = 6
              · have q7 : (2 : Int) < (nn : Int) := by have := HNN.out; omega
                obtain ⟨a2, ha2⟩ : ∃ a2, pn l 2 = a2 := ⟨_, rfl⟩
                have hd2 : wr.cell? ⟨gn, 2, none⟩ = some (.int .i64 a2) := by rw [(own_cells HOWN.out 2 (by omega)).1, HNV.out 2 (by omega), ha2]
                have hd2x := cell_later HBX.out hd2
                have HV2 : Hid (valsOf l 2 = a2) := Lib.hid (by rw [vals_in l 2 (by omega), ha2])
                have HN6 := Lib.hid h6
                clear ha2 hd0 hd1 hd2 h6
                have pre := q7
                go_upto_region 22 with fail
                obtain ⟨wz, hwz⟩ : ∃ wz, wx.setCell ⟨h, 5, none⟩ (.int .i64 a2) = wz := ⟨_, rfl⟩
                rw [hwz]
                have hg : wz.heap[h]? = some (.cells #[.string x0, .int .i64 kd, .bool true, .int .i64 a0, .int .i64 a1, .int .i64 a2] 23 (0, 0)) := by rw [← hwz]; exact heap_set_eq (i := 5) _ (.int .i64 a2) HGX.out
                have hbz : Below wr.heap.size wr wz := by rw [← hwz]; exact HBX.out.setCell HGL.out _
                clear hwz
                · skip
                  clear y0 y1 y2 y3 y4 y5 yf
                  obtain ⟨y0, y1, y2, y3, y4, y5, yf⟩ := six_cells hg
                  have hbw3 := (HBW.out.trans (hbz.mono HBW.out.size))
                  have hres := (hbw3.block _ (lt_of_heap HB0.out)).trans HB0.out
                  have HG := Lib.hid hg
                  have HBZ := Lib.hid hbw3
                  have HRES := Lib.hid hres
                  obtain ⟨nm, hnm⟩ : ∃ nm, numOf kd = nm := ⟨_, rfl⟩
                  have HNM := Lib.hid (fun w => ToxZ.chicaneref09_Numbers.calls kd nm w (by rw [← hnm]; rfl))
                  have hnb : 0 ≤ nm ∧ nm ≤ 2 := by rw [← hnm]; unfold numOf; split <;> (try split) <;> omega
                  obtain ⟨hn0, hn2⟩ := hnb
                  have HN := Lib.hid hnm
                  clear hg hbz hbw3 hres hnm
                  have GOOD : Hid (parse1 l = parse2 l) := Lib.hid (parse1_good l HL.out (con_no HCON.out) (by rw [HX2.out]; exact hway) (fun j hj => HERR.out j (by omega)))
                  by_cases hk0 : kd = 0
                  · have qk : (kd == 0) = true := by simp [hk0]
                    have HK0 := Lib.hid hk0
                    clear hk0
                    obtain ⟨z0, z1, z2, z3, z4, z5, zf⟩ := six_cells HRES.out
                    go_wp2_with fail
                    have hr7 := HR7.out
                    rw [GOOD.out, parse2_noKind l (by rw [HX1.out, HKD.out]; exact HK0.out)] at hr7
                    subst hr7
                    exact refparse_end rfl rfl (six_set HRES.out) rfl (six_below (HW1.out.trans (HBZ.out.mono HW1.out.size))) _ rfl rfl
                  · have qk : (kd == 0) = false := by simp [hk0]
                    have HK0 := Lib.hid hk0
                    clear hk0
                    by_cases hln : (nn : Int) = 1 + nm
                    · have ql : ((nn : Int) != 1 + nm) = false := by simp [hln]
                      have hl := HL.out
                      have hln' : (l.length : Int) = 4 + nm := by have := HNN.out; omega
                      have hv0 : valsOf l 0 = a0 := by rw [vals_in l 0 (by omega), HA0.out]
                      have hv1 : valsOf l 1 = a1 := by rw [vals_in l 1 (by omega), HA1.out]
                      obtain ⟨ev, hev⟩ : ∃ ev, checkOf x0 kd true a0 a1 a2 = ev := ⟨_, rfl⟩
                      have hpc := parse2_check l x0 kd true a0 a1 a2 ev (by rw [HX1.out, HKD.out]) HX0.out (by rw [HX2.out]; simp [← toList_eq_iff, hu]) HK0.out (by rw [HN.out]; exact hln') hv0 hv1 HV2.out hev
                      have hs0 : x0.size ≤ 4611686018427387904 := by rw [← HX0.out]; exact HSZ.out 0 (by omega)
                      have HCC := Lib.hid (fun w => ToxZ.chicaneref09_Check.calls x0 kd true a0 a1 a2 ev w (by rw [ToxZ.chicaneref09_Check.f, if_pos hs0, hev]))
                      have hr7 := HR7.out
                      rw [GOOD.out, hpc] at hr7
                      have HR8 := Lib.hid hr7
                      clear hpc hev hv0 hv1 hln hr7 hs0 hl hln'
                      by_cases he0 : ev = 0
                      · subst he0
                        have hr8 := HR8.out
                        rw [if_pos rfl] at hr8
                        subst hr8
                        go_wp2_with (first | (go_at_call 24; refine (HNM.out _).mono ?_; rintro e w4 ⟨rfl, hb4⟩; have hg4 := (hb4.block _ (lt_of_heap HG.out)).trans HG.out; obtain ⟨y0, y1, y2, y3, y4, y5, yf⟩ := six_cells hg4) | (go_at_call 11; refine (HCC.out _).mono ?_; rintro e w5 ⟨rfl, hb5⟩; have hg5 := (hb5.block _ (lt_of_heap hg4)).trans hg4; obtain ⟨yy0, yy1, yy2, yy3, yy4, yy5, yyf⟩ := six_cells hg5; have hr4 := (hb4.block _ (lt_of_heap HRES.out)).trans HRES.out; have hr5 := (hb5.block _ (lt_of_heap hr4)).trans hr4; obtain ⟨z0, z1, z2, z3, z4, z5, zf⟩ := six_cells hr5) | fail)
                        have hbb := HW1.out.trans (HBZ.out.mono HW1.out.size)
                        have hbc := hbb.trans (hb4.mono hbb.size)
                        exact refparse_end rfl rfl (six_set hr5) rfl (six_below (hbc.trans (hb5.mono hbc.size))) _ rfl rfl
                      · have qe : (ev != 0) = true := by simpa using he0
                        have hr8 := HR8.out
                        rw [if_neg he0] at hr8
                        subst hr8
                        clear he0
                        go_wp2_with (first | (go_at_call 24; refine (HNM.out _).mono ?_; rintro e w4 ⟨rfl, hb4⟩; have hg4 := (hb4.block _ (lt_of_heap HG.out)).trans HG.out; obtain ⟨y0, y1, y2, y3, y4, y5, yf⟩ := six_cells hg4) | (go_at_call 11; refine (HCC.out _).mono ?_; rintro e w5 ⟨rfl, hb5⟩; have hr4 := (hb4.block _ (lt_of_heap HRES.out)).trans HRES.out; have hr5 := (hb5.block _ (lt_of_heap hr4)).trans hr4; obtain ⟨z0, z1, z2, z3, z4, z5, zf⟩ := six_cells hr5) | fail)
                        have hbb := HW1.out.trans (HBZ.out.mono HW1.out.size)
                        have hbc := hbb.trans (hb4.mono hbb.size)
                        exact refparse_end rfl rfl (six_set hr5) rfl (six_below (hbc.trans (hb5.mono hbc.size))) _ rfl rfl
                    · have ql : ((nn : Int) != 1 + nm) = true := by simpa using hln
                      have HLN : Hid ((l.length : Int) ≠ 4 + nm) := Lib.hid (by have := HNN.out; have := HL.out; omega)
                      clear hln
                      go_wp2_with (first | (go_at_call 24; refine (HNM.out _).mono ?_; rintro e w4 ⟨rfl, hb4⟩; have hr4 := (hb4.block _ (lt_of_heap HRES.out)).trans HRES.out; obtain ⟨z0, z1, z2, z3, z4, z5, zf⟩ := six_cells hr4) | fail)
                      have hr7 := HR7.out
                      rw [GOOD.out, parse2_noLen l (by rw [HX1.out, HKD.out, HN.out]; exact HLN.out)] at hr7
                      subst hr7
                      exact refparse_end rfl rfl (six_set hr4) rfl (six_below ((HW1.out.trans (HBZ.out.mono HW1.out.size)).trans (hb4.mono (HW1.out.trans (HBZ.out.mono HW1.out.size)).size))) _ rfl rfl
              · have q7 : ¬ (2 : Int) < (nn : Int) := by have := HNN.out; have := HL.out; omega
                obtain ⟨a2, ha2⟩ : ∃ a2, (0 : Int) = a2 := ⟨_, rfl⟩
                have HV2 : Hid (valsOf l 2 = a2) := Lib.hid (by rw [vals_out l 2 (by have := HL.out; omega), ha2])
                have HN6 := Lib.hid h6
                clear hd0 hd1 h6
                have hg : wx.heap[h]? = some (.cells #[.string x0, .int .i64 kd, .bool true, .int .i64 a0, .int .i64 a1, .int .i64 a2] 23 (0, 0)) := by rw [← ha2]; exact HGX.out
                have hbz := HBX.out
                clear ha2
                go_upto_region 22 with fail
                · skip
                  clear y0 y1 y2 y3 y4 y5 yf
                  obtain ⟨y0, y1, y2, y3, y4, y5, yf⟩ := six_cells hg
                  have hbw3 := (HBW.out.trans (hbz.mono HBW.out.size))
                  have hres := (hbw3.block _ (lt_of_heap HB0.out)).trans HB0.out
                  have HG := Lib.hid hg
                  have HBZ := Lib.hid hbw3
                  have HRES := Lib.hid hres
                  obtain ⟨nm, hnm⟩ : ∃ nm, numOf kd = nm := ⟨_, rfl⟩
                  have HNM := Lib.hid (fun w => ToxZ.chicaneref09_Numbers.calls kd nm w (by rw [← hnm]; rfl))
                  have hnb : 0 ≤ nm ∧ nm ≤ 2 := by rw [← hnm]; unfold numOf; split <;> (try split) <;> omega
                  obtain ⟨hn0, hn2⟩ := hnb
                  have HN := Lib.hid hnm
                  clear hg hbz hbw3 hres hnm
                  have GOOD : Hid (parse1 l = parse2 l) := Lib.hid (parse1_good l HL.out (con_no HCON.out) (by rw [HX2.out]; exact hway) (fun j hj => HERR.out j (by omega)))
                  by_cases hk0 : kd = 0
                  · have qk : (kd == 0) = true := by simp [hk0]
                    have HK0 := Lib.hid hk0
                    clear hk0
                    obtain ⟨z0, z1, z2, z3, z4, z5, zf⟩ := six_cells HRES.out
                    go_wp2_with fail
                    have hr7 := HR7.out
                    rw [GOOD.out, parse2_noKind l (by rw [HX1.out, HKD.out]; exact HK0.out)] at hr7
                    subst hr7
                    exact refparse_end rfl rfl (six_set HRES.out) rfl (six_below (HW1.out.trans (HBZ.out.mono HW1.out.size))) _ rfl rfl
                  · have qk : (kd == 0) = false := by simp [hk0]
                    have HK0 := Lib.hid hk0
                    clear hk0
                    by_cases hln : (nn : Int) = 1 + nm
                    · have ql : ((nn : Int) != 1 + nm) = false := by simp [hln]
                      have hl := HL.out
                      have hln' : (l.length : Int) = 4 + nm := by have := HNN.out; omega
                      have hv0 : valsOf l 0 = a0 := by rw [vals_in l 0 (by omega), HA0.out]
                      have hv1 : valsOf l 1 = a1 := by rw [vals_in l 1 (by omega), HA1.out]
                      obtain ⟨ev, hev⟩ : ∃ ev, checkOf x0 kd true a0 a1 a2 = ev := ⟨_, rfl⟩
                      have hpc := parse2_check l x0 kd true a0 a1 a2 ev (by rw [HX1.out, HKD.out]) HX0.out (by rw [HX2.out]; simp [← toList_eq_iff, hu]) HK0.out (by rw [HN.out]; exact hln') hv0 hv1 HV2.out hev
                      have hs0 : x0.size ≤ 4611686018427387904 := by rw [← HX0.out]; exact HSZ.out 0 (by omega)
                      have HCC := Lib.hid (fun w => ToxZ.chicaneref09_Check.calls x0 kd true a0 a1 a2 ev w (by rw [ToxZ.chicaneref09_Check.f, if_pos hs0, hev]))
                      have hr7 := HR7.out
                      rw [GOOD.out, hpc] at hr7
                      have HR8 := Lib.hid hr7
                      clear hpc hev hv0 hv1 hln hr7 hs0 hl hln'
                      by_cases he0 : ev = 0
                      · subst he0
                        have hr8 := HR8.out
                        rw [if_pos rfl] at hr8
                        subst hr8
                        go_wp2_with (first | (go_at_call 24; refine (HNM.out _).mono ?_; rintro e w4 ⟨rfl, hb4⟩; have hg4 := (hb4.block _ (lt_of_heap HG.out)).trans HG.out; obtain ⟨y0, y1, y2, y3, y4, y5, yf⟩ := six_cells hg4) | (go_at_call 11; refine (HCC.out _).mono ?_; rintro e w5 ⟨rfl, hb5⟩; have hg5 := (hb5.block _ (lt_of_heap hg4)).trans hg4; obtain ⟨yy0, yy1, yy2, yy3, yy4, yy5, yyf⟩ := six_cells hg5; have hr4 := (hb4.block _ (lt_of_heap HRES.out)).trans HRES.out; have hr5 := (hb5.block _ (lt_of_heap hr4)).trans hr4; obtain ⟨z0, z1, z2, z3, z4, z5, zf⟩ := six_cells hr5) | fail)
                        have hbb := HW1.out.trans (HBZ.out.mono HW1.out.size)
                        have hbc := hbb.trans (hb4.mono hbb.size)
                        exact refparse_end rfl rfl (six_set hr5) rfl (six_below (hbc.trans (hb5.mono hbc.size))) _ rfl rfl
                      · have qe : (ev != 0) = true := by simpa using he0
                        have hr8 := HR8.out
                        rw [if_neg he0] at hr8
                        subst hr8
                        clear he0
                        go_wp2_with (first | (go_at_call 24; refine (HNM.out _).mono ?_; rintro e w4 ⟨rfl, hb4⟩; have hg4 := (hb4.block _ (lt_of_heap HG.out)).trans HG.out; obtain ⟨y0, y1, y2, y3, y4, y5, yf⟩ := six_cells hg4) | (go_at_call 11; refine (HCC.out _).mono ?_; rintro e w5 ⟨rfl, hb5⟩; have hr4 := (hb4.block _ (lt_of_heap HRES.out)).trans HRES.out; have hr5 := (hb5.block _ (lt_of_heap hr4)).trans hr4; obtain ⟨z0, z1, z2, z3, z4, z5, zf⟩ := six_cells hr5) | fail)
                        have hbb := HW1.out.trans (HBZ.out.mono HW1.out.size)
                        have hbc := hbb.trans (hb4.mono hbb.size)
                        exact refparse_end rfl rfl (six_set hr5) rfl (six_below (hbc.trans (hb5.mono hbc.size))) _ rfl rfl
                    · have ql : ((nn : Int) != 1 + nm) = true := by simpa using hln
                      have HLN : Hid ((l.length : Int) ≠ 4 + nm) := Lib.hid (by have := HNN.out; have := HL.out; omega)
                      clear hln
                      go_wp2_with (first | (go_at_call 24; refine (HNM.out _).mono ?_; rintro e w4 ⟨rfl, hb4⟩; have hr4 := (hb4.block _ (lt_of_heap HRES.out)).trans HRES.out; obtain ⟨z0, z1, z2, z3, z4, z5, zf⟩ := six_cells hr4) | fail)
                      have hr7 := HR7.out
                      rw [GOOD.out, parse2_noLen l (by rw [HX1.out, HKD.out, HN.out]; exact HLN.out)] at hr7
                      subst hr7
                      exact refparse_end rfl rfl (six_set hr4) rfl (six_below ((HW1.out.trans (HBZ.out.mono HW1.out.size)).trans (hb4.mono (HW1.out.trans (HBZ.out.mono HW1.out.size)).size))) _ rfl rfl
end Go.Proofs.YtbdklgibiadikaaDoor.Tox

/- The contract of chicaneref09.Parse: the way down. -/
set_option linter.unusedVariables false
set_option linter.unusedSimpArgs false
namespace Go.Proofs.YtbdklgibiadikaaDoor.Tox
open Go.RowKit Go.Shelf Go.Proofs.YtbdklgibiadikaaDoor.Ext Go.Proofs.YtbdklgibiadikaaDoor.ToxRef Go.Proofs.YtbdklgibiadikaaDoorW.PrintWords Go.Proofs.YtbdklgibiadikaaDoorW.PrintLast
set_option maxHeartbeats 16000000 in
set_option maxRecDepth 100000 in
theorem refparse_down (s : ByteArray) (w : World) (hs : s.size ≤ 1000000000) (hl5 : ¬ (parts s).length < 5) (hl6 : ¬ 6 < (parts s).length) (hcon : ⟨#[]⟩ ∉ parts s) (hu : (((parts s).getD 2 ByteArray.empty).toList == [117, 112]) = false) (hd : ((parts s).getD 2 ByteArray.empty).toList = [100, 111, 119, 110]) :
    Calls Tryd.prog 18 #[.string s] w fun e w' => e = .returned (tup7 (parseOf s)) ∧ Below w.heap.size w w' := by
  have HS := Lib.hid (fun w => refsplit_parts s w hs)
  have hsz := parts_size s hs
  unfold parseOf
  obtain ⟨l, hpl⟩ : ∃ l, parts s = l := ⟨_, rfl⟩
  rw [hpl] at hsz HS hl5 hl6 hcon hu hd
  rw [hpl]
  obtain ⟨x2, hx2⟩ : ∃ x2, l.getD 2 ByteArray.empty = x2 := ⟨_, rfl⟩
  rw [hx2] at hu hd
  have HX2 := Lib.hid hx2
  have HCON := Lib.hid hcon
  have HSZ := Lib.hid hsz
  have HL := Lib.hid (And.intro hl5 hl6)
  obtain ⟨r7, hr7⟩ : ∃ r7, parse1 l = r7 := ⟨_, rfl⟩
  rw [hr7]
  have HR7 := Lib.hid hr7
  clear hpl hs hsz hx2 hl5 hl6 hr7 hcon
  have hway := way_down hd
  go_enter Tryd.func18, Tryd.ntmps18
  go_wp2_with (first | (go_at_call 35; refine (HS.out _).mono ?_; rintro e w1 ⟨g, cap, rfl, hcell, hg, hb⟩; have HCELL := Lib.hid hcell; have HB0 := Lib.hid ((hb.block _ (by simp)).trans (heap_new w _)); have HW1 := Lib.hid (below_alloc1 hb); have HG := Lib.hid hg; clear hcell hb hg) | fail)
  go_loopw [5] (fun jv wr => ∃ j : Nat, jv = .int .i64 j ∧ j ≤ l.length ∧ w1 = wr) (fun jv _ => l.length - (intOf jv).toNat)
  case atStart => exact ⟨0, rfl, Nat.zero_le _, rfl⟩
  case round =>
    obtain ⟨j, rfl, hj, rfl⟩ := hrel
    by_cases hjn : j < l.length
    · have q3 : (j : Int) < (l.length : Int) := by omega
      have hj6 : (j : Int) ≤ 6 := by have := HL.out; omega
      have hcj := HCELL.out j hjn
      have hne : ((l.getD j ByteArray.empty).toList == []) = false := part_ne HCON.out j hjn
      obtain ⟨xj, hxj⟩ : ∃ xj, l.getD j ByteArray.empty = xj := ⟨_, rfl⟩
      rw [hxj] at hcj hne
      clear hxj
      go_wp2_with fail
      go_roundw
      case measure => simp [intOf]; omega
      · exact ⟨j + 1, by simp, by omega, trivial⟩
    · obtain rfl : j = l.length := by omega
      have q3 : ¬ (l.length : Int) < (l.length : Int) := by omega
      go_upto_region 7 with fail
      go_cut [4, 5, 33] (fun s4 s5 s33 wx => s4 = .slice (some ⟨g, 0, none⟩) l.length cap ∧ s33 = .bool false ∧ w1 = wx)
      case first =>
        have h56 : l.length = 5 ∨ l.length = 6 := by have := HL.out; omega
        rcases h56 with h56 | h56
        · have q5 : ((l.length : Int) != 5) = false := by simp [h56]
          have H56 := Lib.hid h56
          clear h56
          go_wp2_with fail
          go_meet
          exact ⟨by rw [H56.out], rfl, rfl⟩
        · have q5 : ((l.length : Int) != 5) = true := by simp [h56]
          have q6 : ((l.length : Int) != 6) = false := by simp [h56]
          have H56 := Lib.hid h56
          clear h56
          go_wp2_with fail
          go_meet
          exact ⟨by rw [H56.out], rfl, rfl⟩
      case rest =>
        obtain ⟨rfl, rfl, rfl⟩ := hcut
        have hc2 := HCELL.out 2 (by have := HL.out; omega)
        rw [HX2.out] at hc2
        have i2 : (2 : Int) < (l.length : Int) := by have := HL.out; omega
        go_wp2_with fail
        go_loopw [6, 7] (fun nv jv wr => RR l w1 nv jv wr) (fun _ jv _ => l.length - (intOf jv).toNat)
        case atStart => exact ⟨3, _, rfl, rfl, Nat.le_refl _, by have := HL.out; omega, ⟨rfl, .inl ⟨rfl, rfl⟩⟩, (fun b hb => by cases hb), Below.refl _ w1, fun i hi => absurd hi (by omega)⟩
        case round =>
          obtain ⟨i, nv, rfl, rfl, hi3, hil, hown, hnb, hbw, herr⟩ := hrel
          have HOWN := Lib.hid hown
          have HNB := Lib.hid hnb
          have HBW := Lib.hid hbw
          have HERR := Lib.hid herr
          clear hown hnb hbw herr hc2
          by_cases hjn : i < l.length
          · have q6 : (i : Int) < (l.length : Int) := by omega
            have hcj := cell_later HBW.out (HCELL.out i hjn)
            obtain ⟨xj, hxj⟩ : ∃ xj, l.getD i ByteArray.empty = xj := ⟨_, rfl⟩
            rw [hxj] at hcj
            have hsj : xj.size ≤ 4611686018427387904 := by rw [← hxj]; exact HSZ.out i hjn
            obtain ⟨r1, r2, hp⟩ : ∃ r1 r2, tickParse xj = (r1, r2) := ⟨_, _, rfl⟩
            have HP := Lib.hid (ToxZ.chicaneref01_Parse.calls xj r1 r2 wr (by rw [ToxZ.chicaneref01_Parse.f, if_pos hsj, hp]))
            have HXJ := Lib.hid hxj
            have HPP := Lib.hid hp
            have HIX := Lib.hid (show 3 + (i - 3) = i by omega)
            clear hxj hp hsj
            by_cases hr2 : r2 = 0
            · subst hr2
              go_wp2_with (first | (go_at_call 36; refine HP.out.mono ?_; rintro e w2 ⟨rfl, hb2⟩; have HB2 := Lib.hid hb2; clear hb2) | (at_builtin; refine holdL ?_) | fail)
              refine HoldL.go ?_
              have hl6 := HL.out
              refine append_one rfl _ _ 49 3 (.int .i64 0) 1 8 rfl Tryd.underlying49 (by kernel_rfl) rfl (by omega) (by omega) nv (i - 3) (NV l i) #[.int .i64 r1] w2.heap.size rfl rfl rfl rfl (by simp [Value.oneCell']) (pw_own_below HOWN.out HB2.out) (by omega) ?_
              intro v1 w3 hown2 hg2 hat2
              have hb3 : Below w1.heap.size w1 w3 := (HBW.out.trans (HB2.out.mono HBW.out.size)).grown hg2 (Nat.le_trans HBW.out.size HB2.out.size) HNB.out
              have hnb3 : ∀ b, v1.ownBlock = some b → w1.heap.size ≤ b := by
                intro b hb
                rcases hat2 with e | e
                · rw [e] at hb; exact HNB.out b hb
                · rw [e] at hb; have := Nat.le_trans HBW.out.size HB2.out.size; simp at hb; omega
              have hnv : NV l (i + 1) = NV l i ++ [.int .i64 r1] := by
                have h1 := HXJ.out
                have h2 := HPP.out
                have : pn l (i - 3) = r1 := by unfold pn; rw [HIX.out, h1, h2]
                rw [NV_succ l i hi3, this]
              have hown3 : w3.ownsRow 0 3 1 v1 (i + 1 - 3) (NV l (i + 1)) := by
                rw [hnv, show i + 1 - 3 = (i - 3) + 1 by omega]; exact hown2
              have herr3 : ∀ j, j + 3 < i + 1 → pe l j = 0 := by
                intro j hj
                by_cases hij : j + 3 = i
                · have h1 := HXJ.out
                  have h2 := HPP.out
                  unfold pe
                  rw [show 3 + j = i by omega, h1, h2]
                · exact HERR.out j (by omega)
              have HO3 := Lib.hid hown3
              have HB3 := Lib.hid hb3
              have HN3 := Lib.hid hnb3
              have HE3 := Lib.hid herr3
              clear hown2 hg2 hat2 hb3 hnb3 hnv hown3 herr3
              go_wp2_with fail
              go_roundw
              case measure => simp [intOf]; omega
              · exact ⟨i + 1, _, rfl, by simp, by omega, by omega, HO3.out, HN3.out, HB3.out, HE3.out⟩
            · have q4 : (r2 != 0) = true := by simpa using hr2
              have hb02 := (HBW.out.block _ (lt_of_heap HB0.out)).trans HB0.out
              have HB2 := Lib.hid hr2
              clear hr2
              go_wp2_with (first | (go_at_call 36; refine HP.out.mono ?_; rintro e w2 ⟨rfl, hb2⟩; have hbw2 := HBW.out.trans (hb2.mono HBW.out.size); have hr0 := (hb2.block _ (lt_of_heap hb02)).trans hb02; obtain ⟨z0, z1, z2, z3, z4, z5, zf⟩ := six_cells hr0) | fail)
              have hr7 := HR7.out
              have hl := HL.out
              rw [parse1_bad l (i - 3) hl (by omega) (by have h1 := HXJ.out; have h2 := HPP.out; unfold pe; rw [HIX.out, h1, h2]; exact HB2.out)] at hr7
              subst hr7
              exact refparse_end rfl rfl (six_set hr0) rfl (six_below (HW1.out.trans (hbw2.mono HW1.out.size))) _ rfl rfl
          · obtain rfl : i = l.length := by omega
            have q6 : ¬ (l.length : Int) < (l.length : Int) := by omega
            have hl := HL.out
            obtain ⟨gn, capn, rfl⟩ := own_form HOWN.out (by omega)
            obtain ⟨x0, hx0⟩ : ∃ x0, l.getD 0 ByteArray.empty = x0 := ⟨_, rfl⟩
            obtain ⟨x1, hx1⟩ : ∃ x1, l.getD 1 ByteArray.empty = x1 := ⟨_, rfl⟩
            have hc0 := cell_later HBW.out (HCELL.out 0 (by omega))
            have hc1 := cell_later HBW.out (HCELL.out 1 (by omega))
            have hc2 := cell_later HBW.out (HCELL.out 2 (by omega))
            rw [hx0] at hc0
            rw [hx1] at hc1
            rw [HX2.out] at hc2
            obtain ⟨nn, hnn⟩ : ∃ nn, l.length - 3 = nn := ⟨_, rfl⟩
            have hnv : ∀ j, j < nn → (NV l l.length)[j]? = some (.int .i64 (pn l j)) := by
              intro j hj
              unfold NV
              rw [List.getElem?_map, List.getElem?_range (by omega)]
              rfl
            obtain ⟨a0, ha0⟩ : ∃ a0, pn l 0 = a0 := ⟨_, rfl⟩
            obtain ⟨a1, ha1⟩ : ∃ a1, pn l 1 = a1 := ⟨_, rfl⟩
            rw [hnn] at HOWN
            rw [hnn]
            have hd0 : wr.cell? ⟨gn, 0, none⟩ = some (.int .i64 a0) := by rw [(own_cells HOWN.out 0 (by omega)).1, hnv 0 (by omega), ha0]
            have hd1 : wr.cell? ⟨gn, 1, none⟩ = some (.int .i64 a1) := by rw [(own_cells HOWN.out 1 (by omega)).1, hnv 1 (by omega), ha1]
            have HX0 := Lib.hid hx0
            have HX1 := Lib.hid hx1
            have HA0 := Lib.hid ha0
            have HA1 := Lib.hid ha1
            have HNV := Lib.hid hnv
            have HNN := Lib.hid hnn
            obtain ⟨kd, hkd⟩ : ∃ kd, kindOf x1 = kd := ⟨_, rfl⟩
            have HKC := Lib.hid (fun w => ToxZ.chicaneref09_Kind.calls x1 kd w (by rw [← hkd]; rfl))
            have HKD := Lib.hid hkd
            have i0 : 0 < l.length := by omega
            have i1 : (1 : Int) < (l.length : Int) := by omega
            have i2 : (2 : Int) < (l.length : Int) := by omega
            have m0 : 0 < nn := by omega
            have m1 : (1 : Int) < (nn : Int) := by omega
            have hn3 : nn ≤ 3 := by omega
            clear hx0 hx1 ha0 ha1 hnv hkd hl hnn
            have n1 : wr.heap.size ≠ g := World.new_ne wr _ hc0
            have n2 : wr.heap.size ≠ gn := World.new_ne wr _ hd0
            go_upto_region 19 with fail
            go_cut [10] (fun s10 wx' => ∃ (h : Nat) (wx : World), wx = wx' ∧ s10 = .pointer (some ⟨h, 0, none⟩) ∧ wx.heap[h]? = some (.cells #[.string x0, .int .i64 kd, .bool false, .int .i64 a0, .int .i64 a1, .int .i64 0] 23 (0, 0)) ∧ Below wr.heap.size wr wx ∧ wr.heap.size ≤ h)
            case first =>
              go_region_held3 (fun W => W.cell? ⟨g, 0, none⟩ = some (.string x0) ∧ W.cell? ⟨g, 1, none⟩ = some (.string x1) ∧ W.cell? ⟨g, 2, none⟩ = some (.string x2) ∧
                  W.cell? ⟨gn, 0, none⟩ = some (.int .i64 a0) ∧ W.cell? ⟨gn, 1, none⟩ = some (.int .i64 a1))
                (go_keep)
                (first | (go_at_call 23; refine (HKC.out _).mono ?_; rintro e w3 ⟨rfl, hb3⟩; obtain ⟨g0, g1, g2, g3, g4⟩ := ‹_ ∧ _ ∧ _ ∧ _ ∧ _›; have k0 := cell_later hb3 g0; have k1 := cell_later hb3 g1; have k2 := cell_later hb3 g2; have k3 := cell_later hb3 g3; have k4 := cell_later hb3 g4; have n3 := World.new_ne w3 _ k0; have n4 := World.new_ne w3 _ k3; have hbq := below_undrew hb3; have HBR : Hid (Below wr.heap.size wr w3) := Lib.hid (by first | (with_reducible exact hbq) | (with_reducible exact ((Below.refl _ wr).alloc (Nat.le_refl _) _).trans (hbq.mono (by simp)))); clear hbq; have HAL := Lib.hid (heap_new w3); (try (have hzr := (hb3.block wr.heap.size (by simp)).trans (heap_new wr _); have zz := six_cells (W := w3) (B := wr.heap.size) hzr; obtain ⟨z0, z1, z2, z3, z4, z5, zf⟩ := zz; have HZR := Lib.hid hzr; clear hzr))))
              all_goals
                go_wp2_with fail
                go_meet
                refine ⟨_, _, rfl, rfl, ?_, ?_, ?_⟩
                · first
                  | with_reducible exact HAL.out _
                  | with_reducible exact six_set HZR.out
                · first
                  | with_reducible exact fin_a HBR.out
                  | with_reducible exact six_below_at HBR.out
                · first
                  | with_reducible exact Nat.le_refl _
                  | with_reducible exact HBR.out.size
            case rest =>
              obtain ⟨h, wx, rfl, rfl, hg, hbx, hgl⟩ := hcut
              obtain ⟨y0, y1, y2, y3, y4, y5, yf⟩ := six_cells hg
              have HGX := Lib.hid hg
              have HBX := Lib.hid hbx
              have HGL := Lib.hid hgl
              clear hg hbx hgl n1 n2 hc0 hc1 hc2
              by_cases h6 : l.length = 6
              · have q7 : (2 : Int) < (nn : Int) := by have := HNN.out; omega
                obtain ⟨a2, ha2⟩ : ∃ a2, pn l 2 = a2 := ⟨_, rfl⟩
                have hd2 : wr.cell? ⟨gn, 2, none⟩ = some (.int .i64 a2) := by rw [(own_cells HOWN.out 2 (by omega)).1, HNV.out 2 (by omega), ha2]
                have hd2x := cell_later HBX.out hd2
                have HV2 : Hid (valsOf l 2 = a2) := Lib.hid (by rw [vals_in l 2 (by omega), ha2])
                have HN6 := Lib.hid h6
                clear ha2 hd0 hd1 hd2 h6
                have pre := q7
                go_upto_region 22 with fail
                obtain ⟨wz, hwz⟩ : ∃ wz, wx.setCell ⟨h, 5, none⟩ (.int .i64 a2) = wz := ⟨_, rfl⟩
                rw [hwz]
                have hg : wz.heap[h]? = some (.cells #[.string x0, .int .i64 kd, .bool false, .int .i64 a0, .int .i64 a1, .int .i64 a2] 23 (0, 0)) := by rw [← hwz]; exact heap_set_eq (i := 5) _ (.int .i64 a2) HGX.out
                have hbz : Below wr.heap.size wr wz := by rw [← hwz]; exact HBX.out.setCell HGL.out _
                clear hwz
                · skip
                  clear y0 y1 y2 y3 y4 y5 yf
                  obtain ⟨y0, y1, y2, y3, y4, y5, yf⟩ := six_cells hg
                  have hbw3 := (HBW.out.trans (hbz.mono HBW.out.size))
                  have hres := (hbw3.block _ (lt_of_heap HB0.out)).trans HB0.out
                  have HG := Lib.hid hg
                  have HBZ := Lib.hid hbw3
                  have HRES := Lib.hid hres
                  obtain ⟨nm, hnm⟩ : ∃ nm, numOf kd = nm := ⟨_, rfl⟩
                  have HNM := Lib.hid (fun w => ToxZ.chicaneref09_Numbers.calls kd nm w (by rw [← hnm]; rfl))
                  have hnb : 0 ≤ nm ∧ nm ≤ 2 := by rw [← hnm]; unfold numOf; split <;> (try split) <;> omega
                  obtain ⟨hn0, hn2⟩ := hnb
                  have HN := Lib.hid hnm
                  clear hg hbz hbw3 hres hnm
                  have GOOD : Hid (parse1 l = parse2 l) := Lib.hid (parse1_good l HL.out (con_no HCON.out) (by rw [HX2.out]; exact hway) (fun j hj => HERR.out j (by omega)))
                  by_cases hk0 : kd = 0
                  · have qk : (kd == 0) = true := by simp [hk0]
                    have HK0 := Lib.hid hk0
                    clear hk0
                    obtain ⟨z0, z1, z2, z3, z4, z5, zf⟩ := six_cells HRES.out
                    go_wp2_with fail
                    have hr7 := HR7.out
                    rw [GOOD.out, parse2_noKind l (by rw [HX1.out, HKD.out]; exact HK0.out)] at hr7
                    subst hr7
                    exact refparse_end rfl rfl (six_set HRES.out) rfl (six_below (HW1.out.trans (HBZ.out.mono HW1.out.size))) _ rfl rfl
                  · have qk : (kd == 0) = false := by simp [hk0]
                    have HK0 := Lib.hid hk0
                    clear hk0
                    by_cases hln : (nn : Int) = 1 + nm
                    · have ql : ((nn : Int) != 1 + nm) = false := by simp [hln]
                      have hl := HL.out
                      have hln' : (l.length : Int) = 4 + nm := by have := HNN.out; omega
                      have hv0 : valsOf l 0 = a0 := by rw [vals_in l 0 (by omega), HA0.out]
                      have hv1 : valsOf l 1 = a1 := by rw [vals_in l 1 (by omega), HA1.out]
                      obtain ⟨ev, hev⟩ : ∃ ev, checkOf x0 kd false a0 a1 a2 = ev := ⟨_, rfl⟩
                      have hpc := parse2_check l x0 kd false a0 a1 a2 ev (by rw [HX1.out, HKD.out]) HX0.out (by rw [HX2.out]; simp only [decide_eq_false_iff_not]; intro hx; rw [hx] at hd; exact absurd hd (by rw [ByteArray.toList_eq]; decide)) HK0.out (by rw [HN.out]; exact hln') hv0 hv1 HV2.out hev
                      have hs0 : x0.size ≤ 4611686018427387904 := by rw [← HX0.out]; exact HSZ.out 0 (by omega)
                      have HCC := Lib.hid (fun w => ToxZ.chicaneref09_Check.calls x0 kd false a0 a1 a2 ev w (by rw [ToxZ.chicaneref09_Check.f, if_pos hs0, hev]))
                      have hr7 := HR7.out
                      rw [GOOD.out, hpc] at hr7
                      have HR8 := Lib.hid hr7
                      clear hpc hev hv0 hv1 hln hr7 hs0 hl hln'
                      by_cases he0 : ev = 0
                      · subst he0
                        have hr8 := HR8.out
                        rw [if_pos rfl] at hr8
                        subst hr8
                        go_wp2_with (first | (go_at_call 24; refine (HNM.out _).mono ?_; rintro e w4 ⟨rfl, hb4⟩; have hg4 := (hb4.block _ (lt_of_heap HG.out)).trans HG.out; obtain ⟨y0, y1, y2, y3, y4, y5, yf⟩ := six_cells hg4) | (go_at_call 11; refine (HCC.out _).mono ?_; rintro e w5 ⟨rfl, hb5⟩; have hg5 := (hb5.block _ (lt_of_heap hg4)).trans hg4; obtain ⟨yy0, yy1, yy2, yy3, yy4, yy5, yyf⟩ := six_cells hg5; have hr4 := (hb4.block _ (lt_of_heap HRES.out)).trans HRES.out; have hr5 := (hb5.block _ (lt_of_heap hr4)).trans hr4; obtain ⟨z0, z1, z2, z3, z4, z5, zf⟩ := six_cells hr5) | fail)
                        have hbb := HW1.out.trans (HBZ.out.mono HW1.out.size)
                        have hbc := hbb.trans (hb4.mono hbb.size)
                        exact refparse_end rfl rfl (six_set hr5) rfl (six_below (hbc.trans (hb5.mono hbc.size))) _ rfl rfl
                      · have qe : (ev != 0) = true := by simpa using he0
                        have hr8 := HR8.out
                        rw [if_neg he0] at hr8
                        subst hr8
                        clear he0
                        go_wp2_with (first | (go_at_call 24; refine (HNM.out _).mono ?_; rintro e w4 ⟨rfl, hb4⟩; have hg4 := (hb4.block _ (lt_of_heap HG.out)).trans HG.out; obtain ⟨y0, y1, y2, y3, y4, y5, yf⟩ := six_cells hg4) | (go_at_call 11; refine (HCC.out _).mono ?_; rintro e w5 ⟨rfl, hb5⟩; have hr4 := (hb4.block _ (lt_of_heap HRES.out)).trans HRES.out; have hr5 := (hb5.block _ (lt_of_heap hr4)).trans hr4; obtain ⟨z0, z1, z2, z3, z4, z5, zf⟩ := six_cells hr5) | fail)
                        have hbb := HW1.out.trans (HBZ.out.mono HW1.out.size)
                        have hbc := hbb.trans (hb4.mono hbb.size)
                        exact refparse_end rfl rfl (six_set hr5) rfl (six_below (hbc.trans (hb5.mono hbc.size))) _ rfl rfl
                    · have ql : ((nn : Int) != 1 + nm) = true := by simpa using hln
                      have HLN : Hid ((l.length : Int) ≠ 4 + nm) := Lib.hid (by have := HNN.out; have := HL.out; omega)
                      clear hln
                      go_wp2_with (first | (go_at_call 24; refine (HNM.out _).mono ?_; rintro e w4 ⟨rfl, hb4⟩; have hr4 := (hb4.block _ (lt_of_heap HRES.out)).trans HRES.out; obtain ⟨z0, z1, z2, z3, z4, z5, zf⟩ := six_cells hr4) | fail)
                      have hr7 := HR7.out
                      rw [GOOD.out, parse2_noLen l (by rw [HX1.out, HKD.out, HN.out]; exact HLN.out)] at hr7
                      subst hr7
                      exact refparse_end rfl rfl (six_set hr4) rfl (six_below ((HW1.out.trans (HBZ.out.mono HW1.out.size)).trans (hb4.mono (HW1.out.trans (HBZ.out.mono HW1.out.size)).size))) _ rfl rfl
              · have q7 : ¬ (2 : Int) < (nn : Int) := by have := HNN.out; have := HL.out; omega
                obtain ⟨a2, ha2⟩ : ∃ a2, (0 : Int) = a2 := ⟨_, rfl⟩
                have HV2 : Hid (valsOf l 2 = a2) := Lib.hid (by rw [vals_out l 2 (by have := HL.out; omega), ha2])
                have HN6 := Lib.hid h6
                clear hd0 hd1 h6
                have hg : wx.heap[h]? = some (.cells #[.string x0, .int .i64 kd, .bool false, .int .i64 a0, .int .i64 a1, .int .i64 a2] 23 (0, 0)) := by rw [← ha2]; exact HGX.out
                have hbz := HBX.out
                clear ha2
                go_upto_region 22 with fail
                · skip
                  clear y0 y1 y2 y3 y4 y5 yf
                  obtain ⟨y0, y1, y2, y3, y4, y5, yf⟩ := six_cells hg
                  have hbw3 := (HBW.out.trans (hbz.mono HBW.out.size))
                  have hres := (hbw3.block _ (lt_of_heap HB0.out)).trans HB0.out
                  have HG := Lib.hid hg
                  have HBZ := Lib.hid hbw3
                  have HRES := Lib.hid hres
                  obtain ⟨nm, hnm⟩ : ∃ nm, numOf kd = nm := ⟨_, rfl⟩
                  have HNM := Lib.hid (fun w => ToxZ.chicaneref09_Numbers.calls kd nm w (by rw [← hnm]; rfl))
                  have hnb : 0 ≤ nm ∧ nm ≤ 2 := by rw [← hnm]; unfold numOf; split <;> (try split) <;> omega
                  obtain ⟨hn0, hn2⟩ := hnb
                  have HN := Lib.hid hnm
                  clear hg hbz hbw3 hres hnm
                  have GOOD : Hid (parse1 l = parse2 l) := Lib.hid (parse1_good l HL.out (con_no HCON.out) (by rw [HX2.out]; exact hway) (fun j hj => HERR.out j (by omega)))
                  by_cases hk0 : kd = 0
                  · have qk : (kd == 0) = true := by simp [hk0]
                    have HK0 := Lib.hid hk0
                    clear hk0
                    obtain ⟨z0, z1, z2, z3, z4, z5, zf⟩ := six_cells HRES.out
                    go_wp2_with fail
                    have hr7 := HR7.out
                    rw [GOOD.out, parse2_noKind l (by rw [HX1.out, HKD.out]; exact HK0.out)] at hr7
                    subst hr7
                    exact refparse_end rfl rfl (six_set HRES.out) rfl (six_below (HW1.out.trans (HBZ.out.mono HW1.out.size))) _ rfl rfl
                  · have qk : (kd == 0) = false := by simp [hk0]
                    have HK0 := Lib.hid hk0
                    clear hk0
                    by_cases hln : (nn : Int) = 1 + nm
                    · have ql : ((nn : Int) != 1 + nm) = false := by simp [hln]
                      have hl := HL.out
                      have hln' : (l.length : Int) = 4 + nm := by have := HNN.out; omega
                      have hv0 : valsOf l 0 = a0 := by rw [vals_in l 0 (by omega), HA0.out]
                      have hv1 : valsOf l 1 = a1 := by rw [vals_in l 1 (by omega), HA1.out]
                      obtain ⟨ev, hev⟩ : ∃ ev, checkOf x0 kd false a0 a1 a2 = ev := ⟨_, rfl⟩
                      have hpc := parse2_check l x0 kd false a0 a1 a2 ev (by rw [HX1.out, HKD.out]) HX0.out (by rw [HX2.out]; simp only [decide_eq_false_iff_not]; intro hx; rw [hx] at hd; exact absurd hd (by rw [ByteArray.toList_eq]; decide)) HK0.out (by rw [HN.out]; exact hln') hv0 hv1 HV2.out hev
                      have hs0 : x0.size ≤ 4611686018427387904 := by rw [← HX0.out]; exact HSZ.out 0 (by omega)
                      have HCC := Lib.hid (fun w => ToxZ.chicaneref09_Check.calls x0 kd false a0 a1 a2 ev w (by rw [ToxZ.chicaneref09_Check.f, if_pos hs0, hev]))
                      have hr7 := HR7.out
                      rw [GOOD.out, hpc] at hr7
                      have HR8 := Lib.hid hr7
                      clear hpc hev hv0 hv1 hln hr7 hs0 hl hln'
                      by_cases he0 : ev = 0
                      · subst he0
                        have hr8 := HR8.out
                        rw [if_pos rfl] at hr8
                        subst hr8
                        go_wp2_with (first | (go_at_call 24; refine (HNM.out _).mono ?_; rintro e w4 ⟨rfl, hb4⟩; have hg4 := (hb4.block _ (lt_of_heap HG.out)).trans HG.out; obtain ⟨y0, y1, y2, y3, y4, y5, yf⟩ := six_cells hg4) | (go_at_call 11; refine (HCC.out _).mono ?_; rintro e w5 ⟨rfl, hb5⟩; have hg5 := (hb5.block _ (lt_of_heap hg4)).trans hg4; obtain ⟨yy0, yy1, yy2, yy3, yy4, yy5, yyf⟩ := six_cells hg5; have hr4 := (hb4.block _ (lt_of_heap HRES.out)).trans HRES.out; have hr5 := (hb5.block _ (lt_of_heap hr4)).trans hr4; obtain ⟨z0, z1, z2, z3, z4, z5, zf⟩ := six_cells hr5) | fail)
                        have hbb := HW1.out.trans (HBZ.out.mono HW1.out.size)
                        have hbc := hbb.trans (hb4.mono hbb.size)
                        exact refparse_end rfl rfl (six_set hr5) rfl (six_below (hbc.trans (hb5.mono hbc.size))) _ rfl rfl
                      · have qe : (ev != 0) = true := by simpa using he0
                        have hr8 := HR8.out
                        rw [if_neg he0] at hr8
                        subst hr8
                        clear he0
                        go_wp2_with (first | (go_at_call 24; refine (HNM.out _).mono ?_; rintro e w4 ⟨rfl, hb4⟩; have hg4 := (hb4.block _ (lt_of_heap HG.out)).trans HG.out; obtain ⟨y0, y1, y2, y3, y4, y5, yf⟩ := six_cells hg4) | (go_at_call 11; refine (HCC.out _).mono ?_; rintro e w5 ⟨rfl, hb5⟩; have hr4 := (hb4.block _ (lt_of_heap HRES.out)).trans HRES.out; have hr5 := (hb5.block _ (lt_of_heap hr4)).trans hr4; obtain ⟨z0, z1, z2, z3, z4, z5, zf⟩ := six_cells hr5) | fail)
                        have hbb := HW1.out.trans (HBZ.out.mono HW1.out.size)
                        have hbc := hbb.trans (hb4.mono hbb.size)
                        exact refparse_end rfl rfl (six_set hr5) rfl (six_below (hbc.trans (hb5.mono hbc.size))) _ rfl rfl
                    · have ql : ((nn : Int) != 1 + nm) = true := by simpa using hln
                      have HLN : Hid ((l.length : Int) ≠ 4 + nm) := Lib.hid (by have := HNN.out; have := HL.out; omega)
                      clear hln
                      go_wp2_with (first | (go_at_call 24; refine (HNM.out _).mono ?_; rintro e w4 ⟨rfl, hb4⟩; have hr4 := (hb4.block _ (lt_of_heap HRES.out)).trans HRES.out; obtain ⟨z0, z1, z2, z3, z4, z5, zf⟩ := six_cells hr4) | fail)
                      have hr7 := HR7.out
                      rw [GOOD.out, parse2_noLen l (by rw [HX1.out, HKD.out, HN.out]; exact HLN.out)] at hr7
                      subst hr7
                      exact refparse_end rfl rfl (six_set hr4) rfl (six_below ((HW1.out.trans (HBZ.out.mono HW1.out.size)).trans (hb4.mono (HW1.out.trans (HBZ.out.mono HW1.out.size)).size))) _ rfl rfl
end Go.Proofs.YtbdklgibiadikaaDoor.Tox

/- The contract of chicaneref09.Parse: what is no toxic by its parts, and the whole. -/
set_option linter.unusedVariables false
set_option linter.unusedSimpArgs false
namespace Go.Proofs.YtbdklgibiadikaaDoor.Tox
open Go.RowKit Go.Shelf Go.Proofs.YtbdklgibiadikaaDoor.Ext Go.Proofs.YtbdklgibiadikaaDoor.ToxRef Go.Proofs.YtbdklgibiadikaaDoorW.PrintWords Go.Proofs.YtbdklgibiadikaaDoorW.PrintLast

theorem parse1_90 (l : List ByteArray) (h : (⟨#[]⟩ : ByteArray) ∈ l ∨ (l.length < 5 ∨ 6 < l.length) ∨ wayBad (l.getD 2 ByteArray.empty) = true) : parse1 l = bad7 90 := by
  unfold parse1
  split
  · rfl
  · split
    · rfl
    · rename_i h1 h2
      rw [if_pos]
      rcases h with h | h | h
      · exact absurd ((ToxPlain.contains_iff _ _).2 h) h2
      · exact absurd h h1
      · exact h
theorem parts_len (s : ByteArray) (hs : s.size ≤ 1000000000) : (parts s).length ≤ 1000000001 := by
  have h1 : 1 ≤ Ext.blank.size := by decide
  have hle := Lib.countB_le Ext.blank h1 s.size s (Nat.le_refl _)
  have hlen : (parts s).length = Lib.countB s Ext.blank + 1 := Lib.splitB_all Ext.blank h1 0 _ s rfl
  omega
theorem parts_pos (s : ByteArray) : 0 < (parts s).length := by
  have hlen : (parts s).length = Lib.countB s Ext.blank + 1 := Lib.splitB_all Ext.blank (by decide) 0 _ s rfl
  omega
set_option maxHeartbeats 4000000 in
set_option maxRecDepth 100000 in
theorem refparse_bad (s : ByteArray) (w : World) (hs : s.size ≤ 1000000000) (h90 : (⟨#[]⟩ : ByteArray) ∈ parts s ∨ ((parts s).length < 5 ∨ 6 < (parts s).length) ∨ wayBad ((parts s).getD 2 ByteArray.empty) = true) :
    Calls Tryd.prog 18 #[.string s] w fun e w' => e = .returned (tup7 (parseOf s)) ∧ Below w.heap.size w w' := by
  have HS := Lib.hid (fun w => refsplit_parts s w hs)
  have hlen := parts_len s hs
  unfold parseOf
  rw [parse1_90 _ h90]
  obtain ⟨l, hpl⟩ : ∃ l, parts s = l := ⟨_, rfl⟩
  rw [hpl] at HS h90 hlen
  have H90 := Lib.hid h90
  have HLEN := Lib.hid hlen
  clear hpl hs hlen h90
  go_enter Tryd.func18, Tryd.ntmps18
  go_wp2_with (first | (go_at_call 35; refine (HS.out _).mono ?_; rintro e w1 ⟨g, cap, rfl, hcell, hg, hb⟩; have HCELL := Lib.hid hcell; have HB0 := Lib.hid ((hb.block _ (by simp)).trans (heap_new w _)); have HW1 := Lib.hid (below_alloc1 hb); have HG := Lib.hid hg; clear hcell hb hg) | fail)
  go_loopw [5] (fun jv wr => ∃ j : Nat, jv = .int .i64 j ∧ j ≤ l.length ∧ (∀ i, i < j → l.getD i ByteArray.empty ≠ ⟨#[]⟩) ∧ w1 = wr) (fun jv _ => l.length - (intOf jv).toNat)
  case atStart => exact ⟨0, rfl, Nat.zero_le _, fun i hi => absurd hi (Nat.not_lt_zero _), rfl⟩
  case round =>
    obtain ⟨j, rfl, hj, hne, rfl⟩ := hrel
    have HNE := Lib.hid hne
    clear hne
    by_cases hjn : j < l.length
    · have q3 : (j : Int) < (l.length : Int) := by omega
      have hj6 : (j : Int) ≤ 1000000001 := by have := HLEN.out; omega
      have hcj := HCELL.out j hjn
      obtain ⟨xj, hxj⟩ : ∃ xj, l.getD j ByteArray.empty = xj := ⟨_, rfl⟩
      rw [hxj] at hcj
      have HXJ := Lib.hid hxj
      clear hxj
      by_cases he : xj = ⟨#[]⟩
      · have q4 : (xj.toList == []) = true := by rw [he, beq_iff_eq, ByteArray.toList_eq]
        obtain ⟨z0, z1, z2, z3, z4, z5, zf⟩ := six_cells HB0.out
        clear he
        go_wp2_with fail
        exact refparse_end rfl rfl (six_set HB0.out) rfl (six_below HW1.out) _ rfl rfl
      · have q4 : (xj.toList == []) = false := by
          rw [Bool.eq_false_iff]
          intro h2
          rw [beq_iff_eq] at h2
          exact he ((toList_eq_iff _ _).1 (by rw [h2, ByteArray.toList_eq]))
        have HE := Lib.hid he
        clear he
        go_wp2_with fail
        go_roundw
        case measure => simp [intOf]; omega
        · refine ⟨j + 1, by simp, by omega, fun i hi => ?_, trivial⟩
          by_cases hij : i = j
          · subst hij; rw [HXJ.out]; exact HE.out
          · exact HNE.out i (by omega)
    · obtain rfl : j = l.length := by omega
      have q3 : ¬ (l.length : Int) < (l.length : Int) := by omega
      have hno : (⟨#[]⟩ : ByteArray) ∉ l := by
        intro hm
        obtain ⟨i, hi, he⟩ := List.getElem_of_mem hm
        exact HNE.out i hi (by simp [hi, he])
      obtain ⟨z0, z1, z2, z3, z4, z5, zf⟩ := six_cells HB0.out
      by_cases h56 : l.length = 5 ∨ l.length = 6
      · have hw : wayBad (l.getD 2 ByteArray.empty) = true := by
          rcases H90.out with h | h | h
          · exact absurd h hno
          · omega
          · exact h
        have hc2 := HCELL.out 2 (by omega)
        have i2 : (2 : Int) < (l.length : Int) := by omega
        obtain ⟨x2, hx2⟩ : ∃ x2, l.getD 2 ByteArray.empty = x2 := ⟨_, rfl⟩
        rw [hx2] at hc2 hw
        have hu : (x2.toList == [117, 112]) = false := by
          rw [Bool.eq_false_iff]; intro h; rw [beq_iff_eq] at h; exact way_up h hw
        have hd : (x2.toList == [100, 111, 119, 110]) = false := by
          rw [Bool.eq_false_iff]; intro h; rw [beq_iff_eq] at h; exact way_down h hw
        clear hx2 hw hno
        go_upto_region 7 with fail
        go_cut [4, 5, 33] (fun s4 s5 s33 wx => s4 = .slice (some ⟨g, 0, none⟩) l.length cap ∧ s33 = .bool false ∧ w1 = wx)
        case first =>
          rcases h56 with h56 | h56
          · have q5 : ((l.length : Int) != 5) = false := by simp [h56]
            have H56 := Lib.hid h56
            clear h56
            go_wp2_with fail
            go_meet
            exact ⟨by rw [H56.out], rfl, rfl⟩
          · have q5 : ((l.length : Int) != 5) = true := by simp [h56]
            have q6 : ((l.length : Int) != 6) = false := by simp [h56]
            have H56 := Lib.hid h56
            clear h56
            go_wp2_with fail
            go_meet
            exact ⟨by rw [H56.out], rfl, rfl⟩
        case rest =>
          obtain ⟨rfl, rfl, rfl⟩ := hcut
          clear h56
          go_wp2_with fail
          exact refparse_end rfl rfl (six_set HB0.out) rfl (six_below HW1.out) _ rfl rfl
      · have q5 : ((l.length : Int) != 5) = true := by simp; omega
        have q6 : ((l.length : Int) != 6) = true := by simp; omega
        clear h56 hno
        go_wp2_with fail
        exact refparse_end rfl rfl (six_set HB0.out) rfl (six_below HW1.out) _ rfl rfl
theorem refparse_all (s : ByteArray) (w : World) (hs : s.size ≤ 1000000000) :
    Calls Tryd.prog 18 #[.string s] w fun e w' => e = .returned (tup7 (parseOf s)) ∧ Below w.heap.size w w' := by
  by_cases hc : (⟨#[]⟩ : ByteArray) ∈ parts s
  · exact refparse_bad s w hs (.inl hc)
  · by_cases hl : (parts s).length < 5 ∨ 6 < (parts s).length
    · exact refparse_bad s w hs (.inr (.inl hl))
    · have h5 : ¬ (parts s).length < 5 := by omega
      have h6 : ¬ 6 < (parts s).length := by omega
      cases hu : (((parts s).getD 2 ByteArray.empty).toList == [117, 112])
      · cases hd : (((parts s).getD 2 ByteArray.empty).toList == [100, 111, 119, 110])
        · refine refparse_bad s w hs (.inr (.inr ?_))
          simp only [wayBad, Bool.and_eq_true, decide_eq_true_eq]
          generalize (parts s).getD 2 ByteArray.empty = x2 at hu hd
          refine ⟨?_, ?_⟩
          · rintro rfl; simp [ByteArray.toList_eq] at hu
          · rintro rfl; simp [ByteArray.toList_eq] at hd
        · exact refparse_down s w hs h5 h6 hc hu (beq_iff_eq.1 hd)
      · exact refparse_up s w hs h5 h6 hc (beq_iff_eq.1 hu)
end Go.Proofs.YtbdklgibiadikaaDoor.Tox
namespace Go.Proofs.YtbdklgibiadikaaDoor.ToxZ
open Go.RowKit Go.Proofs.YtbdklgibiadikaaDoor.Tox
def chicaneref09_Parse.f (a0 : ByteArray) : Option (ByteArray × Int × Bool × Int × Int × Int × Int) := if a0.size ≤ 1000000000 then some (parseOf a0) else none
theorem chicaneref09_Parse.calls (a0 : ByteArray) (r1 : ByteArray) (r2 : Int) (r3 : Bool) (r4 : Int) (r5 : Int) (r6 : Int) (r7 : Int) (w : World) (h : chicaneref09_Parse.f a0 = some (r1, r2, r3, r4, r5, r6, r7)) :
    Calls Tryd.prog 18 #[.string a0] w fun e w' => e = .returned (.tuple #[.agg #[.string r1, .int .i64 r2, .bool r3, .int .i64 r4, .int .i64 r5, .int .i64 r6], .int .i64 r7]) ∧ Below w.heap.size w w' := by
  unfold chicaneref09_Parse.f at h
  split at h
  · rename_i hs
    have := refparse_all a0 w hs
    rw [Option.some.inj h] at this
    exact this
  · cases h
end Go.Proofs.YtbdklgibiadikaaDoor.ToxZ
