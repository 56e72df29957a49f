/- The document's answer for alarms: right, Find, put, without. -/
import Derived.Test.YtcnifhkgibopbaaMoveP
import Derived.Test.YtcnifhkgibopbaaStepsW
set_option linter.unusedVariables false
set_option linter.unusedSimpArgs false
namespace Go.Proofs.Ytcnifhkgibopbaa
open Go.RowKit Go.MapKept Go.ChangeMaps

theorem rright_any (x : Int) (w : World) :
    Calls Try.prog 31 #[.int .i64 x] w fun e w' => e = .returned (.bool (decide (0 ≤ x) && decide (x ≤ 1099511627776))) ∧ w = w' := by
  by_cases h0 : 0 ≤ x
  · go_enter Try.func31, Try.ntmps31
    go_wp2_with fail
    go_ret
    exact ⟨by simp [h0], rfl⟩
  · go_enter Try.func31, Try.ntmps31
    go_wp2_with fail
    go_ret
    refine ⟨?_, rfl⟩
    have e : (decide (0 ≤ x) && decide (x ≤ 1099511627776)) = false := by simp; omega
    rw [e]
    rfl

/-- Where a number stands; -1: nowhere. -/
def findI (L : List D2) (id : Int) : Int := match findL L id with | some k => k | none => -1
set_option maxRecDepth 100000 in
theorem rfind_any (v : Value) (L : List D2) (id : Int) (w : World) (h : Rd due w v L) (hl : L.length ≤ 1000000) :
    Calls Try.prog 30 #[v, .int .i64 id] w fun e w' => e = .returned (.int .i64 (findI L id)) ∧ w = w' := by
  have HH := Lib.hid h
  obtain ⟨A, c, rfl, h1, h2, h3⟩ := h
  clear h3 h2
  go_enter Try.func30, Try.ntmps30
  go_wp2_with fail
  go_loopw [5] (fun jv wr => ∃ j : Nat, jv = .int .i64 j ∧ j ≤ L.length ∧ (∀ i, i < j → ∀ d, L[i]? = some d → d.2 ≠ id) ∧ w = wr) (fun jv _ => L.length - (intOf jv).toNat)
  case atStart => exact ⟨0, rfl, Nat.zero_le _, fun i hi => absurd hi (Nat.not_lt_zero _), rfl⟩
  case round =>
    obtain ⟨j, rfl, hj, hno, rfl⟩ := hrel
    have HNO := Lib.hid hno
    clear hno
    by_cases hjl : j < L.length
    · obtain ⟨d, hd⟩ : ∃ d, L[j]? = some d := ⟨_, List.getElem?_eq_getElem hjl⟩
      obtain ⟨b, o, c', hv, c0, c1⟩ := HH.out.at_ hd
      cases hv
      have hjl' : (j : Int) < (L.length : Int) := by omega
      have hj1 : (j : Int) ≤ 1000000 := by omega
      have HD := Lib.hid hd
      clear hd
      by_cases he : d.2 = id
      · have q : (d.2 == id) = true := by simp [he]
        have HE := Lib.hid he
        clear he
        go_wp2_with fail
        go_ret
        refine ⟨?_, rfl⟩
        have hf : findL L id = some j := by
          unfold findL
          rw [List.findIdx?_eq_some_iff_getElem]
          refine ⟨hjl, ?_, fun i hi => ?_⟩
          · have := HD.out
            rw [List.getElem?_eq_getElem hjl] at this
            have := Option.some.inj this
            rw [this, HE.out]; simp
          · have := HNO.out i hi L[i] (List.getElem?_eq_getElem (by omega))
            simpa using this
        unfold findI
        rw [hf]
        rfl
      · have q : (d.2 == id) = false := by simp [he]
        have HE := Lib.hid he
        clear he
        go_wp2_with fail
        go_roundw
        case rel =>
          refine ⟨j + 1, by go_num, by omega, fun i hi d' hd' => ?_, by first | rfl | trivial⟩
          by_cases hij : i = j
          · subst hij
            rw [HD.out] at hd'
            rw [← Option.some.inj hd']
            exact HE.out
          · exact HNO.out i (by omega) d' hd'
        case measure => simp [intOf]; omega
    · have q : ¬ (j : Int) < (L.length : Int) := by omega
      go_wp2_with fail
      go_ret
      refine ⟨?_, rfl⟩
      have hf : findL L id = none := by
        unfold findL
        rw [List.findIdx?_eq_none_iff]
        intro d hd
        obtain ⟨i, hi⟩ := List.getElem?_of_mem hd
        have := HNO.out i (by have := (List.getElem?_eq_some_iff.1 hi).1; omega) d hi
        simpa using this
      unfold findI
      rw [hf]
      rfl

theorem own_lt {w : World} {g n base : Nat} {e : TypeId} {s : Nat} {v : Value} {xs : List Value} (h : w.ownsRow base e s v n xs) (hg : v.ownBlock = some g) : g < w.heap.size := by
  rcases h.2 with ⟨rfl, _⟩ | ⟨g', cap', cur, rfl, _, hh, _⟩
  · simp [Value.ownBlock] at hg
  · simp [Value.ownBlock] at hg
    subst hg
    exact lt_of_heap hh
/-- A row with one more. -/
def putL : List D2 → D2 → List D2
  | [], d => [d]
  | x :: r, d => if aheadB d x then d :: x :: r else x :: putL r d
/-- The row that is made, and the box of the one that is put. -/
structure PO (w : World) (d : D2) (ov : Value) (out : List D2) (W : World) : Prop where
  own : W.ownsRow 0 53 2 ov out.length (flat due out)
  fresh : ∀ g, ov.ownBlock = some g → w.heap.size + 1 ≤ g
  below : Below w.heap.size w W
  box : W.heap[w.heap.size]? = some (.cells #[.int .i64 d.1, .int .i64 d.2] 53 (0, 0))
theorem PO.put {w : World} {d : D2} {ov : Value} {out : List D2} {W : World} (h : PO w d ov out W) (hl : out.length ≤ 100002) (y : D2) {ops : Array Oper} {rest : List Oper} {o : Oper} {a : Act} {Q : Exit → Act → World → Prop} (hgd : o.guard = none) (s x : Operand)
    (ho : o.op = .call { callee := .builtin .append, args := #[s, x], argTypes := #[39, 39] }) (hs : a.eval s = ov) (hx : a.eval x = .slice (some ⟨W.heap.size, 0, none⟩) 1 1)
    (k : ∀ v1 w2, PO w d v1 (out ++ [y]) w2 → wpList Try.prog ops Q rest (a.put o.dst v1) w2) :
    wpList Try.prog ops Q (o :: rest) a (W.alloc (.cells #[.int .i64 y.1, .int .i64 y.2] 53)) := by
  refine append_one hgd s x 39 53 (.agg #[.int .i64 0, .int .i64 0]) 2 16 ho Try.underlying39 Try.infoRDue rfl (by omega) (by omega) ov out.length (flat due out) #[.int .i64 y.1, .int .i64 y.2] W.heap.size hs hx rfl rfl (by simp [Value.oneCell']) h.own (by omega) ?_
  intro v1 w2 hown2 hg2 hat2
  have hsz : w.heap.size < W.heap.size := lt_of_heap h.box
  refine k v1 w2 ⟨?_, ?_, ?_, ?_⟩
  · rw [List.length_append, flat_append]
    exact hown2
  · intro g hg
    rcases hat2 with e | e
    · rw [e] at hg; exact h.fresh g hg
    · rw [e] at hg; injection hg with hg; omega
  · exact h.below.grown hg2 h.below.size fun g hg => by have := h.fresh g hg; omega
  · have hb := hg2.block w.heap.size hsz (fun e => by have := h.fresh _ e.symm; omega)
    rw [hb]
    exact h.box
theorem PO.cells {w : World} {d : D2} {ov : Value} {out : List D2} {W : World} (h : PO w d ov out W) : W.cell? ⟨w.heap.size, 0, none⟩ = some (.int .i64 d.1) ∧ W.cell? ⟨w.heap.size, 1, none⟩ = some (.int .i64 d.2) :=
  ⟨cell_of_cells h.box 0, cell_of_cells h.box 1⟩
theorem PO.drew {w : World} {d : D2} {ov : Value} {out : List D2} {W : World} (h : PO w d ov out W) : PO w d ov out W.drew := ⟨h.own, h.fresh, h.below.drew, h.box⟩
def PutR (w : World) (L : List D2) (d : D2) (ov dv iv : Value) (wr : World) : Prop :=
  ∃ (i : Nat) (out : List D2) (done : Bool), iv = .int .i64 i ∧ dv = .bool done ∧ i ≤ L.length ∧ out.length ≤ i + 1 ∧ (done = false → out.length ≤ i) ∧ PO w d ov out wr ∧ out ++ (if done then L.drop i else putL (L.drop i) d) = putL L d
set_option maxRecDepth 100000 in
set_option maxHeartbeats 1600000 in
theorem put_any (v : Value) (L : List D2) (d : D2) (w : World) (h : Rd due w v L) (hl : L.length ≤ 100000) :
    Calls Try.prog 32 #[v, .agg #[.int .i64 d.1, .int .i64 d.2]] w fun e w' => ∃ v', e = .returned v' ∧ Rd due w' v' (putL L d) ∧ (∀ g, v'.ownBlock = some g → w.heap.size ≤ g ∧ g < w'.heap.size) ∧ Below w.heap.size w w' := by
  have HH := Lib.hid h
  obtain ⟨A, c, rfl, h1, h2, h3⟩ := h
  clear h3 h2
  go_enter Try.func32, Try.ntmps32
  go_wp2_with fail
  go_loopw [5, 6, 7] (fun ov dv iv wr => PutR w L d ov dv iv wr) (fun _ _ iv _ => L.length - (intOf iv).toNat)
  case atStart =>
    refine ⟨0, [], false, rfl, rfl, Nat.zero_le _, by simp, by simp, ⟨World.ownsRow_nil _ _ _ _, fun g hg => by simp [Value.ownBlock] at hg, (Below.refl _ _).alloc (Nat.le_refl _) _, (heap_alloc w _).1⟩, rfl⟩
  case round =>
    obtain ⟨i, out, done, rfl, rfl, hi, hoi, hdn, hpo, hinv⟩ := hrel
    have HDN := Lib.hid hdn
    clear hdn
    have HPO := Lib.hid hpo
    have HINV := Lib.hid hinv
    obtain ⟨b0, b1⟩ := hpo.cells
    have lb0 := World.block_lt_of_cell? _ _ b0
    have hln : out.length ≤ 100001 := by omega
    have HLN := Lib.hid hln
    clear hpo hinv hln
    by_cases hil : i < L.length
    · obtain ⟨x, hx⟩ : ∃ x, L[i]? = some x := ⟨_, List.getElem?_eq_getElem hil⟩
      obtain ⟨b, o, c', hv, c0, c1⟩ := (HH.out.below HPO.out.below).at_ hx
      cases hv
      have hil' : (i : Int) < (L.length : Int) := by omega
      have hi1 : (i : Int) ≤ 100000 := by omega
      have lb := World.block_lt_of_cell? _ _ c0
      have hdrop : L.drop i = x :: L.drop (i + 1) := by
        rw [List.drop_eq_getElem_cons hil]
        rw [List.getElem?_eq_getElem hil] at hx
        rw [Option.some.inj hx]
      have HDROP := Lib.hid hdrop
      have HX := Lib.hid hx
      clear hx hdrop
      cases done with
      | true =>
        go_wp2_with fail
        go_region
        have hpw := HPO.out.drew
        generalize wr.drew = W0 at hpw ⊢
        have HPW := Lib.hid hpw
        clear hpw b0 b1 c0 c1 lb lb0
        obtain ⟨b', o', c'', hv, c0, c1⟩ := (HH.out.below HPW.out.below).at_ HX.out
        cases hv
        have lb := World.block_lt_of_cell? _ _ c0
        go_wp2_with (first | (at_builtin; refine holdL ?_) | fail)
        refine HoldL.go ?_
        refine HPW.out.put (by have := HLN.out; omega) x rfl _ _ rfl rfl rfl ?_
        intro v1 w2 hp2
        have HP2 := Lib.hid hp2
        clear hp2
        go_wp2_with fail
        go_roundw
        case rel =>
          refine ⟨i + 1, out ++ [x], true, by go_num, (by first | rfl | trivial), by omega, by simp; omega, fun h => (by cases h), HP2.out, ?_⟩
          have := HINV.out
          rw [HDROP.out] at this
          simpa using this
        case measure => simp [intOf]; omega
      | false =>
        have hcase : (aheadB d x = true ∧ (d.1 < x.1 ∨ (¬ d.1 < x.1 ∧ d.1 = x.1 ∧ d.2 < x.2))) ∨ (aheadB d x = false ∧ ((¬ d.1 < x.1 ∧ d.1 ≠ x.1) ∨ (¬ d.1 < x.1 ∧ d.1 = x.1 ∧ ¬ d.2 < x.2))) := by
          cases hah : aheadB d x
          · right; rw [ahead_false] at hah; unfold le at hah; refine ⟨rfl, ?_⟩; omega
          · left; rw [ahead_true] at hah; unfold lt at hah; refine ⟨rfl, ?_⟩; omega
        rcases hcase with ⟨hah, hc⟩ | ⟨hah, hc⟩
        · have HAH := Lib.hid hah
          clear hah
          rcases hc with p1 | ⟨p1, p2, p3⟩
          · have p1d : decide (d.1 < x.1) = true := decide_eq_true p1
            clear p1
            go_wp2_with fail
            go_region
            all_goals
              have hpw := HPO.out.drew
              generalize wr.drew = W0 at hpw ⊢
              have HPW := Lib.hid hpw
              clear hpw b0 b1 c0 c1 lb lb0
              obtain ⟨b0, b1⟩ := HPW.out.cells
              have lb0 := World.block_lt_of_cell? _ _ b0
              go_wp2_with (first | (at_builtin; refine holdL ?_) | fail)
              refine HoldL.go ?_
              refine HPW.out.put (by have := HLN.out; omega) d rfl _ _ rfl rfl rfl ?_
              intro v1 w2 hp2
              have HP2 := Lib.hid hp2
              clear hp2 b0 b1 lb0
              obtain ⟨b', o', c'', hv, c0, c1⟩ := (HH.out.below HP2.out.below).at_ HX.out
              cases hv
              have lb := World.block_lt_of_cell? _ _ c0
              go_wp2_with (first | (at_builtin; refine holdL ?_) | fail)
              refine HoldL.go ?_
              refine HP2.out.put (by have := HLN.out; simp; omega) x rfl _ _ rfl rfl rfl ?_
              intro v3 w3 hp3
              have HP3 := Lib.hid hp3
              clear hp3
              go_wp2_with fail
              go_roundw
              case rel =>
                have hoi2 : out.length ≤ i := by
                  first | exact HDN.out rfl | exact HDN.out trivial
                refine ⟨i + 1, out ++ [d] ++ [x], true, by go_num, (by first | rfl | trivial), by omega, by simp; omega, fun h => (by cases h), HP3.out, ?_⟩
                have := HINV.out
                rw [HDROP.out] at this
                simpa [putL, HAH.out] using this
              case measure => simp [intOf]; omega
          · have p1d : decide (d.1 < x.1) = false := decide_eq_false p1
            have p2d : decide (d.1 = x.1) = true := decide_eq_true p2
            have q2 : (d.1 == x.1) = true := by simp [p2]
            have p3d : decide (d.2 < x.2) = true := decide_eq_true p3
            clear p1 p2 p3
            go_wp2_with fail
            go_region
            all_goals
              have hpw := HPO.out.drew
              generalize wr.drew = W0 at hpw ⊢
              have HPW := Lib.hid hpw
              clear hpw b0 b1 c0 c1 lb lb0
              obtain ⟨b0, b1⟩ := HPW.out.cells
              have lb0 := World.block_lt_of_cell? _ _ b0
              go_wp2_with (first | (at_builtin; refine holdL ?_) | fail)
              refine HoldL.go ?_
              refine HPW.out.put (by have := HLN.out; omega) d rfl _ _ rfl rfl rfl ?_
              intro v1 w2 hp2
              have HP2 := Lib.hid hp2
              clear hp2 b0 b1 lb0
              obtain ⟨b', o', c'', hv, c0, c1⟩ := (HH.out.below HP2.out.below).at_ HX.out
              cases hv
              have lb := World.block_lt_of_cell? _ _ c0
              go_wp2_with (first | (at_builtin; refine holdL ?_) | fail)
              refine HoldL.go ?_
              refine HP2.out.put (by have := HLN.out; simp; omega) x rfl _ _ rfl rfl rfl ?_
              intro v3 w3 hp3
              have HP3 := Lib.hid hp3
              clear hp3
              go_wp2_with fail
              go_roundw
              case rel =>
                have hoi2 : out.length ≤ i := by
                  first | exact HDN.out rfl | exact HDN.out trivial
                refine ⟨i + 1, out ++ [d] ++ [x], true, by go_num, (by first | rfl | trivial), by omega, by simp; omega, fun h => (by cases h), HP3.out, ?_⟩
                have := HINV.out
                rw [HDROP.out] at this
                simpa [putL, HAH.out] using this
              case measure => simp [intOf]; omega
        · have HAH := Lib.hid hah
          clear hah
          rcases hc with ⟨p1, p2⟩ | ⟨p1, p2, p3⟩
          · have p1d : decide (d.1 < x.1) = false := decide_eq_false p1
            have p2d : decide (d.1 = x.1) = false := decide_eq_false p2
            have q2 : (d.1 == x.1) = false := by simp [p2]
            clear p1 p2
            go_wp2_with fail
            go_region
            all_goals
              have hpw := HPO.out.drew
              generalize wr.drew = W0 at hpw ⊢
              have HPW := Lib.hid hpw
              clear hpw b0 b1 c0 c1 lb lb0
              obtain ⟨b', o', c'', hv, c0, c1⟩ := (HH.out.below HPW.out.below).at_ HX.out
              cases hv
              have lb := World.block_lt_of_cell? _ _ c0
              go_wp2_with (first | (at_builtin; refine holdL ?_) | fail)
              refine HoldL.go ?_
              refine HPW.out.put (by have := HLN.out; omega) x rfl _ _ rfl rfl rfl ?_
              intro v1 w2 hp2
              have HP2 := Lib.hid hp2
              clear hp2
              go_wp2_with fail
              go_roundw
              case rel =>
                refine ⟨i + 1, out ++ [x], false, by go_num, (by first | rfl | trivial), by omega, by simp; omega, fun _ => (by have : out.length ≤ i := (by first | exact HDN.out rfl | exact HDN.out trivial); simp; omega), HP2.out, ?_⟩
                have := HINV.out
                rw [HDROP.out] at this
                simpa [putL, HAH.out] using this
              case measure => simp [intOf]; omega
          · have p1d : decide (d.1 < x.1) = false := decide_eq_false p1
            have p2d : decide (d.1 = x.1) = true := decide_eq_true p2
            have q2 : (d.1 == x.1) = true := by simp [p2]
            have p3d : decide (d.2 < x.2) = false := decide_eq_false p3
            clear p1 p2 p3
            go_wp2_with fail
            go_region
            all_goals
              have hpw := HPO.out.drew
              generalize wr.drew = W0 at hpw ⊢
              have HPW := Lib.hid hpw
              clear hpw b0 b1 c0 c1 lb lb0
              obtain ⟨b', o', c'', hv, c0, c1⟩ := (HH.out.below HPW.out.below).at_ HX.out
              cases hv
              have lb := World.block_lt_of_cell? _ _ c0
              go_wp2_with (first | (at_builtin; refine holdL ?_) | fail)
              refine HoldL.go ?_
              refine HPW.out.put (by have := HLN.out; omega) x rfl _ _ rfl rfl rfl ?_
              intro v1 w2 hp2
              have HP2 := Lib.hid hp2
              clear hp2
              go_wp2_with fail
              go_roundw
              case rel =>
                refine ⟨i + 1, out ++ [x], false, by go_num, (by first | rfl | trivial), by omega, by simp; omega, fun _ => (by have : out.length ≤ i := (by first | exact HDN.out rfl | exact HDN.out trivial); simp; omega), HP2.out, ?_⟩
                have := HINV.out
                rw [HDROP.out] at this
                simpa [putL, HAH.out] using this
              case measure => simp [intOf]; omega
    · have q : ¬ (i : Int) < (L.length : Int) := by omega
      obtain rfl : i = L.length := by omega
      cases done with
      | true =>
        go_wp2_with fail
        go_ret
        refine ⟨_, rfl, ?_, fun g hg => by have := HPO.out.fresh g hg; have := own_lt HPO.out.own hg; omega, HPO.out.below⟩
        have : out = putL L d := by have := HINV.out; simpa using this
        rw [← this]
        exact Rd.of_own due_length HPO.out.own
      | false =>
        go_wp2_with (first | (at_builtin; refine holdL ?_) | fail)
        refine HoldL.go ?_
        refine HPO.out.put (by have := HLN.out; omega) d rfl _ _ rfl rfl rfl ?_
        intro v1 w2 hp2
        have HP2 := Lib.hid hp2
        clear hp2
        go_wp2_with fail
        go_ret
        refine ⟨_, rfl, ?_, fun g hg => by have := HP2.out.fresh g hg; have := own_lt HP2.out.own hg; omega, HP2.out.below⟩
        have : out ++ [d] = putL L d := by have := HINV.out; simpa [putL] using this
        rw [← this]
        exact Rd.of_own due_length HP2.out.own
end Go.Proofs.Ytcnifhkgibopbaa
