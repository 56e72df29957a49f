/- The document's answer for alarms: a call. -/
import Derived.Test.YtcnifhkgibopbaaRefB
set_option linter.unusedVariables false
set_option linter.unusedSimpArgs false
namespace Go.Proofs.Ytcnifhkgibopbaa
open Go.RowKit Go.MapKept Go.ChangeMaps

/-- What the document's call makes of a row in order. -/
def doR (R : List D2) (last kind at_ id : Int) : Ans :=
  if kind = 0 then (if (decide (0 ≤ at_) && decide (at_ ≤ 1099511627776)) then ⟨putL R (at_, last + 1), last + 1, last + 1, false, 0, []⟩ else ⟨R, last, 0, false, 1, []⟩)
  else if kind = 1 then (match findL R id with | some k => ⟨R.eraseIdx k, last, 0, true, 0, []⟩ | none => ⟨R, last, 0, false, 0, []⟩)
  else if kind = 2 then (match findL R id with | some k => if (decide (0 ≤ at_) && decide (at_ ≤ 1099511627776)) then ⟨putL (R.eraseIdx k) (at_, id), last, 0, true, 0, []⟩ else ⟨R, last, 0, false, 0, []⟩ | none => ⟨R, last, 0, false, 0, []⟩)
  else if kind = 3 then (match findL R id with | some k => ⟨R, last, (fn R k).1, true, 0, []⟩ | none => ⟨R, last, 0, false, 0, []⟩)
  else if kind = 4 then ⟨R.dropWhile (fun d => decide (d.1 ≤ at_)), last, 0, false, 0, R.takeWhile (fun d => decide (d.1 ≤ at_))⟩
  else ⟨R, last, 0, false, 0, []⟩

/-- The row u lies in new memory, or in that of v. -/
def Old (w W : World) (v u : Value) : Prop := ∀ g, u.ownBlock = some g → (w.heap.size ≤ g ∧ g < W.heap.size) ∨ v.ownBlock = some g
theorem Old.same (w W : World) (v : Value) : Old w W v v := fun g hg => .inr hg
theorem Old.nil (w W : World) (v : Value) : Old w W v (.slice none 0 0) := fun g hg => by simp [Value.ownBlock] at hg
def DoPost (w : World) (v : Value) (A : Ans) (e : Ending) (w' : World) : Prop :=
  ∃ v' vo, e = .returned (.tuple #[.agg #[v', .int .i64 A.last], .agg #[.int .i64 A.N, .bool A.is, .int .i64 A.e, vo]]) ∧ Rd due w' v' A.L ∧ Rd due w' vo A.out ∧ Below w.heap.size w w' ∧ Old w w' v v' ∧ Old w w' v vo

/-- The four blocks of a call. -/
structure Bx (w : World) (v : Value) (last kind at_ id : Int) (r0 r1 q0 q1 q2 q3 : Value) (W : World) : Prop where
  a : W.heap[w.heap.size]? = some (.cells #[v, .int .i64 last] 47 (0, 0))
  o : W.heap[w.heap.size + 1]? = some (.cells #[.int .i64 kind, .int .i64 at_, .int .i64 id] 38 (0, 0))
  r : W.heap[w.heap.size + 1 + 1]? = some (.cells #[r0, r1] 47 (0, 0))
  q : W.heap[w.heap.size + 1 + 1 + 1]? = some (.cells #[q0, q1, q2, q3] 41 (0, 0))
  below : Below w.heap.size w W
theorem Bx.start (w : World) (v : Value) (last kind at_ id : Int) : Bx w v last kind at_ id (.slice none 0 0) (.int .i64 0) (.int .i64 0) (.bool false) (.int .i64 0) (.slice none 0 0)
    ((((w.alloc (.cells #[v, .int .i64 last] 47)).alloc (.cells #[.int .i64 kind, .int .i64 at_, .int .i64 id] 38)).alloc (.cells #[.slice none 0 0, .int .i64 0] 47)).alloc (.cells #[.int .i64 0, .bool false, .int .i64 0, .slice none 0 0] 41)) := by
  obtain ⟨h1, h2, h3⟩ := heap_three w (.cells #[v, .int .i64 last] 47) (.cells #[.int .i64 kind, .int .i64 at_, .int .i64 id] 38) (.cells #[.slice none 0 0, .int .i64 0] 47)
  refine ⟨heap_alloc_lt _ _ h1, heap_alloc_lt _ _ h2, heap_alloc_lt _ _ h3, ?_, ?_⟩
  · have := (heap_alloc (((w.alloc (.cells #[v, .int .i64 last] 47)).alloc (.cells #[.int .i64 kind, .int .i64 at_, .int .i64 id] 38)).alloc (.cells #[.slice none 0 0, .int .i64 0] 47)) (.cells #[.int .i64 0, .bool false, .int .i64 0, .slice none 0 0] 41)).1
    simpa using this
  · exact ((((Below.refl _ w).alloc (Nat.le_refl _) _).alloc (by simp) _).alloc (by simp; omega) _).alloc (by simp; omega) _
theorem Bx.later {w : World} {v : Value} {last kind at_ id : Int} {r0 r1 q0 q1 q2 q3 : Value} {W W' : World} (h : Bx w v last kind at_ id r0 r1 q0 q1 q2 q3 W) (hb : Below W.heap.size W W') : Bx w v last kind at_ id r0 r1 q0 q1 q2 q3 W' :=
  ⟨(hb.block _ (lt_of_heap h.a)).trans h.a, (hb.block _ (lt_of_heap h.o)).trans h.o, (hb.block _ (lt_of_heap h.r)).trans h.r, (hb.block _ (lt_of_heap h.q)).trans h.q, h.below.trans (hb.mono h.below.size)⟩
theorem Bx.cells {w : World} {v : Value} {last kind at_ id : Int} {r0 r1 q0 q1 q2 q3 : Value} {W : World} (h : Bx w v last kind at_ id r0 r1 q0 q1 q2 q3 W) :
    W.cell? ⟨w.heap.size, 0, none⟩ = some v ∧ W.cell? ⟨w.heap.size, 1, none⟩ = some (.int .i64 last) ∧ W.cell? ⟨w.heap.size + 1, 0, none⟩ = some (.int .i64 kind) ∧ W.cell? ⟨w.heap.size + 1, 1, none⟩ = some (.int .i64 at_) ∧ W.cell? ⟨w.heap.size + 1, 2, none⟩ = some (.int .i64 id) ∧
    W.cell? ⟨w.heap.size + 1 + 1, 0, none⟩ = some r0 ∧ W.cell? ⟨w.heap.size + 1 + 1, 1, none⟩ = some r1 ∧ W.cell? ⟨w.heap.size + 1 + 1 + 1, 0, none⟩ = some q0 ∧ W.cell? ⟨w.heap.size + 1 + 1 + 1, 1, none⟩ = some q1 ∧ W.cell? ⟨w.heap.size + 1 + 1 + 1, 2, none⟩ = some q2 ∧ W.cell? ⟨w.heap.size + 1 + 1 + 1, 3, none⟩ = some q3 :=
  ⟨cell_of_cells h.a 0, cell_of_cells h.a 1, cell_of_cells h.o 0, cell_of_cells h.o 1, cell_of_cells h.o 2, cell_of_cells h.r 0, cell_of_cells h.r 1, cell_of_cells h.q 0, cell_of_cells h.q 1, cell_of_cells h.q 2, cell_of_cells h.q 3⟩
theorem Bx.free {w : World} {v : Value} {last kind at_ id : Int} {r0 r1 q0 q1 q2 q3 : Value} {W : World} (h : Bx w v last kind at_ id r0 r1 q0 q1 q2 q3 W) :
    (∀ i, W.frozen? ⟨w.heap.size, i, none⟩ = false) ∧ (∀ i, W.frozen? ⟨w.heap.size + 1 + 1, i, none⟩ = false) ∧ ∀ i, W.frozen? ⟨w.heap.size + 1 + 1 + 1, i, none⟩ = false :=
  ⟨free_of_cells h.a, free_of_cells h.r, free_of_cells h.q⟩
theorem Bx.drew {w : World} {v : Value} {last kind at_ id : Int} {r0 r1 q0 q1 q2 q3 : Value} {W : World} (h : Bx w v last kind at_ id r0 r1 q0 q1 q2 q3 W) : Bx w v last kind at_ id r0 r1 q0 q1 q2 q3 W.drew := ⟨h.a, h.o, h.r, h.q, h.below.drew⟩
theorem Bx.setA {w : World} {v : Value} {last kind at_ id : Int} {r0 r1 q0 q1 q2 q3 : Value} {W : World} (h : Bx w v last kind at_ id r0 r1 q0 q1 q2 q3 W) (x : Value) : Bx w x last kind at_ id r0 r1 q0 q1 q2 q3 (W.setCell ⟨w.heap.size, 0, none⟩ x) :=
  ⟨heap_set_eq (i := 0) W x h.a, heap_set_ne _ _ _ h.o (by first | (simp; done) | (simp; omega)), heap_set_ne _ _ _ h.r (by first | (simp; done) | (simp; omega)), heap_set_ne _ _ _ h.q (by first | (simp; done) | (simp; omega)), h.below.setCell (Nat.le_refl _) _⟩
theorem Bx.setL {w : World} {v : Value} {last kind at_ id : Int} {r0 r1 q0 q1 q2 q3 : Value} {W : World} (h : Bx w v last kind at_ id r0 r1 q0 q1 q2 q3 W) (x : Int) : Bx w v x kind at_ id r0 r1 q0 q1 q2 q3 (W.setCell ⟨w.heap.size, 1, none⟩ (.int .i64 x)) :=
  ⟨heap_set_eq (i := 1) W (.int .i64 x) h.a, heap_set_ne _ _ _ h.o (by first | (simp; done) | (simp; omega)), heap_set_ne _ _ _ h.r (by first | (simp; done) | (simp; omega)), heap_set_ne _ _ _ h.q (by first | (simp; done) | (simp; omega)), h.below.setCell (Nat.le_refl _) _⟩
theorem Bx.setR {w : World} {v : Value} {last kind at_ id : Int} {r0 r1 q0 q1 q2 q3 : Value} {W : World} (h : Bx w v last kind at_ id r0 r1 q0 q1 q2 q3 W) (x y : Value) :
    Bx w v last kind at_ id x y q0 q1 q2 q3 ((W.setCell ⟨w.heap.size + 1 + 1, 0, none⟩ x).setCell ⟨w.heap.size + 1 + 1, 1, none⟩ y) :=
  ⟨heap_set_ne _ _ _ (heap_set_ne _ _ _ h.a (by first | (simp; done) | (simp; omega))) (by first | (simp; done) | (simp; omega)), heap_set_ne _ _ _ (heap_set_ne _ _ _ h.o (by first | (simp; done) | (simp; omega))) (by first | (simp; done) | (simp; omega)), by
    have := heap_set_eq (i := 1) _ y (heap_set_eq (i := 0) W x h.r); simpa using this, heap_set_ne _ _ _ (heap_set_ne _ _ _ h.q (by first | (simp; done) | (simp; omega))) (by first | (simp; done) | (simp; omega)), (h.below.setCell (by first | (simp; done) | (simp; omega)) _).setCell (by first | (simp; done) | (simp; omega)) _⟩
theorem Bx.setQ {w : World} {v : Value} {last kind at_ id : Int} {r0 r1 q0 q1 q2 q3 : Value} {W : World} (h : Bx w v last kind at_ id r0 r1 q0 q1 q2 q3 W) (x y z u : Value) :
    Bx w v last kind at_ id r0 r1 x y z u ((((W.setCell ⟨w.heap.size + 1 + 1 + 1, 0, none⟩ x).setCell ⟨w.heap.size + 1 + 1 + 1, 1, none⟩ y).setCell ⟨w.heap.size + 1 + 1 + 1, 2, none⟩ z).setCell ⟨w.heap.size + 1 + 1 + 1, 3, none⟩ u) :=
  ⟨heap_set_ne _ _ _ (heap_set_ne _ _ _ (heap_set_ne _ _ _ (heap_set_ne _ _ _ h.a (by first | (simp; done) | (simp; omega))) (by first | (simp; done) | (simp; omega))) (by first | (simp; done) | (simp; omega))) (by first | (simp; done) | (simp; omega)),
   heap_set_ne _ _ _ (heap_set_ne _ _ _ (heap_set_ne _ _ _ (heap_set_ne _ _ _ h.o (by first | (simp; done) | (simp; omega))) (by first | (simp; done) | (simp; omega))) (by first | (simp; done) | (simp; omega))) (by first | (simp; done) | (simp; omega)),
   heap_set_ne _ _ _ (heap_set_ne _ _ _ (heap_set_ne _ _ _ (heap_set_ne _ _ _ h.r (by first | (simp; done) | (simp; omega))) (by first | (simp; done) | (simp; omega))) (by first | (simp; done) | (simp; omega))) (by first | (simp; done) | (simp; omega)), by
    have := heap_set_eq (i := 3) _ u (heap_set_eq (i := 2) _ z (heap_set_eq (i := 1) _ y (heap_set_eq (i := 0) W x h.q))); simpa using this,
   (((h.below.setCell (by first | (simp; done) | (simp; omega)) _).setCell (by first | (simp; done) | (simp; omega)) _).setCell (by first | (simp; done) | (simp; omega)) _).setCell (by first | (simp; done) | (simp; omega)) _⟩

theorem results_two {P : Program} {fn : Func} {tmps : Array Value} {W : World} {p p2 : Tmp} {ty ty2 : TypeId} {g g2 : Nat} {cs cs2 : Array Value} {d d2 : TypeDesc} (h : fn.results = #[.cell p ty, .cell p2 ty2])
    (hp : tmps.getD p undef = .pointer (some ⟨g, 0, none⟩)) (hp2 : tmps.getD p2 undef = .pointer (some ⟨g2, 0, none⟩))
    (hg : W.heap[g]? = some (.cells cs ty (0, 0))) (hg2 : W.heap[g2]? = some (.cells cs2 ty2 (0, 0))) (hu : P.underlying ty = some d) (hd : (match d with | .struct _ | .array _ _ => true | _ => false) = true) (hi : (P.info? ty).map (·.size) = some cs.size)
    (hu2 : P.underlying ty2 = some d2) (hd2 : (match d2 with | .struct _ | .array _ _ => true | _ => false) = true) (hi2 : (P.info? ty2).map (·.size) = some cs2.size) : (results fn tmps).run P W = .ok (.tuple #[.agg cs, .agg cs2]) W := by
  unfold results
  rw [h, show (#[ResultVar.cell p ty, ResultVar.cell p2 ty2]) = [ResultVar.cell p ty, ResultVar.cell p2 ty2].toArray from rfl, List.mapM_toArray]
  have hp' : tmps[p]?.getD undef = .pointer (some ⟨g, 0, none⟩) := by simpa using hp
  have hp2' : tmps[p2]?.getD undef = .pointer (some ⟨g2, 0, none⟩) := by simpa using hp2
  simp [List.mapM_cons, hp', hp2', asAddr, run_loadVar_row W g ty ty cs (0, 0) d hg hu hd hi, run_loadVar_row W g2 ty2 ty2 cs2 (0, 0) d2 hg2 hu2 hd2 hi2]
/-- The end of a call. -/
theorem Bx.done {w : World} {v : Value} {last kind at_ id : Int} {v' vo : Value} {A : Ans} {W : World} (h : Bx w v last kind at_ id v' (.int .i64 A.last) (.int .i64 A.N) (.bool A.is) (.int .i64 A.e) vo W) (h1 : Rd due W v' A.L) (h2 : Rd due W vo A.out) {u : Value} (o1 : Old w W u v') (o2 : Old w W u vo)
    {tmps : Array Value} {df : List Deferred} (hp : tmps.getD 4 undef = .pointer (some ⟨w.heap.size + 1 + 1, 0, none⟩)) (hp2 : tmps.getD 5 undef = .pointer (some ⟨w.heap.size + 1 + 1 + 1, 0, none⟩)) (hdf : df = []) :
    bodyPost Try.prog Try.f17 (DoPost w u A) Exit.ret { tmps := tmps, defers := df } W := by
  subst hdf
  refine bodyPost_ret (v := .tuple #[.agg #[v', .int .i64 A.last], .agg #[.int .i64 A.N, .bool A.is, .int .i64 A.e, vo]]) ?_ rfl ⟨v', vo, rfl, h1, h2, h.below, o1, o2⟩
  exact results_two rfl hp hp2 h.r h.q Try.underlying47 rfl (by kernel_rfl) Try.underlying41 rfl (by kernel_rfl)
theorem Bx.done2 {w : World} {v : Value} {last kind at_ id : Int} {v' vo : Value} {A : Ans} {W : World} (h : Bx w v last kind at_ id v' (.int .i64 A.last) (.int .i64 A.N) (.bool A.is) (.int .i64 A.e) vo W) (h1 : Below w.heap.size w W → Rd due W v' A.L) (h2 : Rd due W vo A.out) {u : Value} (o1 : Old w W u v') (o2 : Old w W u vo)
    {tmps : Array Value} {df : List Deferred} (hp : tmps.getD 4 undef = .pointer (some ⟨w.heap.size + 1 + 1, 0, none⟩)) (hp2 : tmps.getD 5 undef = .pointer (some ⟨w.heap.size + 1 + 1 + 1, 0, none⟩)) (hdf : df = []) :
    bodyPost Try.prog Try.f17 (DoPost w u A) Exit.ret { tmps := tmps, defers := df } W := h.done (h1 h.below) h2 o1 o2 hp hp2 hdf
theorem rd_nil (w : World) : Rd due w (.slice none 0 0) [] := ⟨none, 0, rfl, Nat.le_refl _, by simp, fun hp => by simp at hp⟩

set_option maxRecDepth 100000 in
set_option maxHeartbeats 800000 in
theorem do_else (v : Value) (R : List D2) (last kind at_ id : Int) (w : World) (h : Rd due w v R) (hl : R.length ≤ 1000) (hk : ¬ (0 ≤ kind ∧ kind ≤ 4)) :
    Calls Try.prog 17 #[.agg #[v, .int .i64 last], .agg #[.int .i64 kind, .int .i64 at_, .int .i64 id]] w (DoPost w v (doR R last kind at_ id)) := by
  have HA := Lib.hid (show doR R last kind at_ id = ⟨R, last, 0, false, 0, []⟩ by unfold doR; rw [if_neg (by omega), if_neg (by omega), if_neg (by omega), if_neg (by omega), if_neg (by omega)])
  rw [HA.out]
  have hbx := Bx.start w v last kind at_ id
  have k0 : (kind == 0) = false := by simp; omega
  have k1 : (kind == 1) = false := by simp; omega
  have k2 : (kind == 2) = false := by simp; omega
  have k3 : (kind == 3) = false := by simp; omega
  have k4 : (kind == 4) = false := by simp; omega
  clear hk
  have HF := Lib.hid (fun W h => rfind_any v R id W h (by omega))
  have HH := Lib.hid h
  obtain ⟨A, c, rfl, -, -, -⟩ := h
  go_enter Try.func17, Try.ntmps17
  go_wp2_with fail
  generalize ((((w.alloc (.cells #[.slice A R.length c, .int .i64 last] 47)).alloc (.cells #[.int .i64 kind, .int .i64 at_, .int .i64 id] 38)).alloc (.cells #[.slice none 0 0, .int .i64 0] 47)).alloc (.cells #[.int .i64 0, .bool false, .int .i64 0, .slice none 0 0] 41)) = W at hbx ⊢
  refine (HF.out _ (HH.out.below hbx.below)).mono ?_
  rintro e w1 ⟨rfl, rfl⟩
  have HBX := Lib.hid hbx
  obtain ⟨c0, c1, c2, c3, c4, c5, c6, c7, c8, c9, c10⟩ := hbx.cells
  obtain ⟨f0, f1, f2⟩ := hbx.free
  clear hbx
  go_wp2_with fail
  have hb := (HBX.out.setR (.slice A R.length c) (.int .i64 last)).setQ (.int .i64 0) (.bool false) (.int .i64 0) (.slice none 0 0)
  refine hb.done (A := ⟨R, last, 0, false, 0, []⟩) (HH.out.below hb.below) (rd_nil _) (Old.same _ _ _) (Old.nil _ _ _) ?_ ?_ ?_ <;> rfl
set_option maxRecDepth 100000 in
set_option maxHeartbeats 1600000 in
theorem do_set_no (v : Value) (R : List D2) (last at_ id : Int) (w : World) (h : Rd due w v R) (hl : R.length ≤ 1000) (hr : (decide (0 ≤ at_) && decide (at_ ≤ 1099511627776)) = false) :
    Calls Try.prog 17 #[.agg #[v, .int .i64 last], .agg #[.int .i64 0, .int .i64 at_, .int .i64 id]] w (DoPost w v ⟨R, last, 0, false, 1, []⟩) := by
  have hbx := Bx.start w v last 0 at_ id
  have HF := Lib.hid (fun W h => rfind_any v R id W h (by omega))
  have HFI : Hid (findI R id = findI R id) := Lib.hid (by rfl)
  have HH := Lib.hid h
  obtain ⟨A, c, rfl, hlc, hlm, hcell⟩ := h
  go_enter Try.func17, Try.ntmps17
  go_wp2_with fail
  generalize ((((w.alloc (.cells #[.slice A R.length c, .int .i64 last] 47)).alloc (.cells #[.int .i64 0, .int .i64 at_, .int .i64 id] 38)).alloc (.cells #[.slice none 0 0, .int .i64 0] 47)).alloc (.cells #[.int .i64 0, .bool false, .int .i64 0, .slice none 0 0] 41)) = W at hbx ⊢
  refine (HF.out _ (HH.out.below hbx.below)).mono ?_
  rintro e w1 ⟨rfl, rfl⟩
  (try rw [HFI.out])
  have HBX := Lib.hid hbx
  obtain ⟨c0, c1, c2, c3, c4, c5, c6, c7, c8, c9, c10⟩ := hbx.cells
  obtain ⟨f0, f1, f2⟩ := hbx.free
  clear hbx
  clear hcell hlc hlm
  go_wp2_with (first | (go_at_call 31; refine (rright_any _ _).mono ?_; rintro e w2 ⟨rfl, rfl⟩; rw [hr]) | fail)
  have hb := (HBX.out.setR (.slice A R.length c) (.int .i64 last)).setQ (.int .i64 0) (.bool false) (.int .i64 1) (.slice none 0 0)
  refine hb.done (A := ⟨R, last, 0, false, 1, []⟩) (HH.out.below hb.below) (rd_nil _) (Old.same _ _ _) (Old.nil _ _ _) ?_ ?_ ?_ <;> rfl
set_option maxRecDepth 100000 in
set_option maxHeartbeats 1600000 in
theorem do_can_no (v : Value) (R : List D2) (last at_ id : Int) (w : World) (h : Rd due w v R) (hl : R.length ≤ 1000) (hf : findL R id = none) :
    Calls Try.prog 17 #[.agg #[v, .int .i64 last], .agg #[.int .i64 1, .int .i64 at_, .int .i64 id]] w (DoPost w v ⟨R, last, 0, false, 0, []⟩) := by
  have hbx := Bx.start w v last 1 at_ id
  have HF := Lib.hid (fun W h => rfind_any v R id W h (by omega))
  have HFI : Hid (findI R id = -1) := Lib.hid (by unfold findI; rw [hf])
  have HH := Lib.hid h
  obtain ⟨A, c, rfl, hlc, hlm, hcell⟩ := h
  go_enter Try.func17, Try.ntmps17
  go_wp2_with fail
  generalize ((((w.alloc (.cells #[.slice A R.length c, .int .i64 last] 47)).alloc (.cells #[.int .i64 1, .int .i64 at_, .int .i64 id] 38)).alloc (.cells #[.slice none 0 0, .int .i64 0] 47)).alloc (.cells #[.int .i64 0, .bool false, .int .i64 0, .slice none 0 0] 41)) = W at hbx ⊢
  refine (HF.out _ (HH.out.below hbx.below)).mono ?_
  rintro e w1 ⟨rfl, rfl⟩
  (try rw [HFI.out])
  have HBX := Lib.hid hbx
  obtain ⟨c0, c1, c2, c3, c4, c5, c6, c7, c8, c9, c10⟩ := hbx.cells
  obtain ⟨f0, f1, f2⟩ := hbx.free
  clear hbx
  clear hcell hlc hlm
  go_wp2_with fail
  have hb := (HBX.out.setR (.slice A R.length c) (.int .i64 last)).setQ (.int .i64 0) (.bool false) (.int .i64 0) (.slice none 0 0)
  refine hb.done (A := ⟨R, last, 0, false, 0, []⟩) (HH.out.below hb.below) (rd_nil _) (Old.same _ _ _) (Old.nil _ _ _) ?_ ?_ ?_ <;> rfl
set_option maxRecDepth 100000 in
set_option maxHeartbeats 1600000 in
theorem do_mov_none (v : Value) (R : List D2) (last at_ id : Int) (w : World) (h : Rd due w v R) (hl : R.length ≤ 1000) (hf : findL R id = none) :
    Calls Try.prog 17 #[.agg #[v, .int .i64 last], .agg #[.int .i64 2, .int .i64 at_, .int .i64 id]] w (DoPost w v ⟨R, last, 0, false, 0, []⟩) := by
  have hbx := Bx.start w v last 2 at_ id
  have HF := Lib.hid (fun W h => rfind_any v R id W h (by omega))
  have HFI : Hid (findI R id = -1) := Lib.hid (by unfold findI; rw [hf])
  have HH := Lib.hid h
  obtain ⟨A, c, rfl, hlc, hlm, hcell⟩ := h
  go_enter Try.func17, Try.ntmps17
  go_wp2_with fail
  generalize ((((w.alloc (.cells #[.slice A R.length c, .int .i64 last] 47)).alloc (.cells #[.int .i64 2, .int .i64 at_, .int .i64 id] 38)).alloc (.cells #[.slice none 0 0, .int .i64 0] 47)).alloc (.cells #[.int .i64 0, .bool false, .int .i64 0, .slice none 0 0] 41)) = W at hbx ⊢
  refine (HF.out _ (HH.out.below hbx.below)).mono ?_
  rintro e w1 ⟨rfl, rfl⟩
  (try rw [HFI.out])
  have HBX := Lib.hid hbx
  obtain ⟨c0, c1, c2, c3, c4, c5, c6, c7, c8, c9, c10⟩ := hbx.cells
  obtain ⟨f0, f1, f2⟩ := hbx.free
  clear hbx
  clear hcell hlc hlm
  go_wp2_with fail
  have hb := (HBX.out.setR (.slice A R.length c) (.int .i64 last)).setQ (.int .i64 0) (.bool false) (.int .i64 0) (.slice none 0 0)
  refine hb.done (A := ⟨R, last, 0, false, 0, []⟩) (HH.out.below hb.below) (rd_nil _) (Old.same _ _ _) (Old.nil _ _ _) ?_ ?_ ?_ <;> rfl
set_option maxRecDepth 100000 in
set_option maxHeartbeats 1600000 in
theorem do_mov_no (v : Value) (R : List D2) (last at_ id : Int) (w : World) (h : Rd due w v R) (hl : R.length ≤ 1000) (k : Nat) (hf : findL R id = some k) (hr : (decide (0 ≤ at_) && decide (at_ ≤ 1099511627776)) = false) :
    Calls Try.prog 17 #[.agg #[v, .int .i64 last], .agg #[.int .i64 2, .int .i64 at_, .int .i64 id]] w (DoPost w v ⟨R, last, 0, false, 0, []⟩) := by
  have hbx := Bx.start w v last 2 at_ id
  have HF := Lib.hid (fun W h => rfind_any v R id W h (by omega))
  have HFI : Hid (findI R id = k) := Lib.hid (by unfold findI; rw [hf])
  have HH := Lib.hid h
  obtain ⟨A, c, rfl, hlc, hlm, hcell⟩ := h
  go_enter Try.func17, Try.ntmps17
  go_wp2_with fail
  generalize ((((w.alloc (.cells #[.slice A R.length c, .int .i64 last] 47)).alloc (.cells #[.int .i64 2, .int .i64 at_, .int .i64 id] 38)).alloc (.cells #[.slice none 0 0, .int .i64 0] 47)).alloc (.cells #[.int .i64 0, .bool false, .int .i64 0, .slice none 0 0] 41)) = W at hbx ⊢
  refine (HF.out _ (HH.out.below hbx.below)).mono ?_
  rintro e w1 ⟨rfl, rfl⟩
  (try rw [HFI.out])
  have HBX := Lib.hid hbx
  obtain ⟨c0, c1, c2, c3, c4, c5, c6, c7, c8, c9, c10⟩ := hbx.cells
  obtain ⟨f0, f1, f2⟩ := hbx.free
  clear hbx
  clear hcell hlc hlm
  have kk : ¬ (k : Int) < 0 := by omega
  go_wp2_with (first | (go_at_call 31; refine (rright_any _ _).mono ?_; rintro e w2 ⟨rfl, rfl⟩; rw [hr]) | fail)
  have hb := (HBX.out.setR (.slice A R.length c) (.int .i64 last)).setQ (.int .i64 0) (.bool false) (.int .i64 0) (.slice none 0 0)
  refine hb.done (A := ⟨R, last, 0, false, 0, []⟩) (HH.out.below hb.below) (rd_nil _) (Old.same _ _ _) (Old.nil _ _ _) ?_ ?_ ?_ <;> rfl
set_option maxRecDepth 100000 in
set_option maxHeartbeats 1600000 in
theorem do_when_none (v : Value) (R : List D2) (last at_ id : Int) (w : World) (h : Rd due w v R) (hl : R.length ≤ 1000) (hf : findL R id = none) :
    Calls Try.prog 17 #[.agg #[v, .int .i64 last], .agg #[.int .i64 3, .int .i64 at_, .int .i64 id]] w (DoPost w v ⟨R, last, 0, false, 0, []⟩) := by
  have hbx := Bx.start w v last 3 at_ id
  have HF := Lib.hid (fun W h => rfind_any v R id W h (by omega))
  have HFI : Hid (findI R id = -1) := Lib.hid (by unfold findI; rw [hf])
  have HH := Lib.hid h
  obtain ⟨A, c, rfl, hlc, hlm, hcell⟩ := h
  go_enter Try.func17, Try.ntmps17
  go_wp2_with fail
  generalize ((((w.alloc (.cells #[.slice A R.length c, .int .i64 last] 47)).alloc (.cells #[.int .i64 3, .int .i64 at_, .int .i64 id] 38)).alloc (.cells #[.slice none 0 0, .int .i64 0] 47)).alloc (.cells #[.int .i64 0, .bool false, .int .i64 0, .slice none 0 0] 41)) = W at hbx ⊢
  refine (HF.out _ (HH.out.below hbx.below)).mono ?_
  rintro e w1 ⟨rfl, rfl⟩
  (try rw [HFI.out])
  have HBX := Lib.hid hbx
  obtain ⟨c0, c1, c2, c3, c4, c5, c6, c7, c8, c9, c10⟩ := hbx.cells
  obtain ⟨f0, f1, f2⟩ := hbx.free
  clear hbx
  clear hcell hlc hlm
  go_wp2_with fail
  have hb := (HBX.out.setR (.slice A R.length c) (.int .i64 last)).setQ (.int .i64 0) (.bool false) (.int .i64 0) (.slice none 0 0)
  refine hb.done (A := ⟨R, last, 0, false, 0, []⟩) (HH.out.below hb.below) (rd_nil _) (Old.same _ _ _) (Old.nil _ _ _) ?_ ?_ ?_ <;> rfl
set_option maxRecDepth 100000 in
set_option maxHeartbeats 1600000 in
theorem do_can_yes (v : Value) (R : List D2) (last at_ id : Int) (w : World) (h : Rd due w v R) (hl : R.length ≤ 1000) (k : Nat) (hf : findL R id = some k) (hk : k < R.length) :
    Calls Try.prog 17 #[.agg #[v, .int .i64 last], .agg #[.int .i64 1, .int .i64 at_, .int .i64 id]] w (DoPost w v ⟨R.eraseIdx k, last, 0, true, 0, []⟩) := by
  have hbx := Bx.start w v last 1 at_ id
  have HF := Lib.hid (fun W h => rfind_any v R id W h (by omega))
  have HFI : Hid (findI R id = k) := Lib.hid (by unfold findI; rw [hf])
  have HH := Lib.hid h
  obtain ⟨A, c, rfl, hlc, hlm, hcell⟩ := h
  go_enter Try.func17, Try.ntmps17
  go_wp2_with fail
  generalize ((((w.alloc (.cells #[.slice A R.length c, .int .i64 last] 47)).alloc (.cells #[.int .i64 1, .int .i64 at_, .int .i64 id] 38)).alloc (.cells #[.slice none 0 0, .int .i64 0] 47)).alloc (.cells #[.int .i64 0, .bool false, .int .i64 0, .slice none 0 0] 41)) = W at hbx ⊢
  refine (HF.out _ (HH.out.below hbx.below)).mono ?_
  rintro e w1 ⟨rfl, rfl⟩
  (try rw [HFI.out])
  have HBX := Lib.hid hbx
  obtain ⟨c0, c1, c2, c3, c4, c5, c6, c7, c8, c9, c10⟩ := hbx.cells
  obtain ⟨f0, f1, f2⟩ := hbx.free
  clear hbx
  clear hcell hlc hlm
  have kk : (0 : Int) ≤ (k : Int) := by omega
  have HWO := Lib.hid (without_any (.slice A R.length c) R k W (HH.out.below HBX.out.below) (by omega) hk)
  go_wp2_with (first | (go_at_call 33; refine HWO.out.mono ?_; rintro e w2 ⟨v2, rfl, hr2, hf2, hb2⟩; have HF2 := Lib.hid hf2; clear hf2; have hbx2 := HBX.out.later hb2; have HBX2 := Lib.hid hbx2; have HR2 := Lib.hid hr2; obtain ⟨A2, cc2, rfl, -, -, -⟩ := hr2; clear c0 c1 c2 c3 c4 c5 c6 c7 c8 c9 c10 f0 f1 f2 hb2; obtain ⟨c0, c1, c2, c3, c4, c5, c6, c7, c8, c9, c10⟩ := hbx2.cells; obtain ⟨f0, f1, f2⟩ := hbx2.free; clear hbx2) | fail)
  have hb := ((HBX2.out.setA (.slice A2 (R.eraseIdx k).length cc2)).setR (.slice A2 (R.eraseIdx k).length cc2) (.int .i64 last)).setQ (.int .i64 0) (.bool true) (.int .i64 0) (.slice none 0 0)
  refine hb.done (A := ⟨R.eraseIdx k, last, 0, true, 0, []⟩) ?_ (rd_nil _) (fun g hg => .inl (by have h1 := HF2.out g hg; have h2 := HBX.out.below.size; exact ⟨by omega, by simpa using h1.2⟩)) (Old.nil _ _ _) ?_ ?_ ?_
  · refine Rd.only (S := fun k => w.heap.size ≤ k ∧ k < w.heap.size + 4) HR2.out ?_ (fun g hg hs => by have := HF2.out g hg; have := lt_of_heap HBX.out.q; omega)
    repeat (first | with_reducible exact Only.refl _ _ | with_reducible refine Only.setCell ?_ (.inl (by simp; try omega)) _ | with_reducible refine Only.drew ?_)
  all_goals rfl
set_option maxRecDepth 100000 in
set_option maxHeartbeats 1600000 in
theorem do_when_yes (v : Value) (R : List D2) (last at_ id : Int) (w : World) (h : Rd due w v R) (hl : R.length ≤ 1000) (k : Nat) (hf : findL R id = some k) (hk : k < R.length) :
    Calls Try.prog 17 #[.agg #[v, .int .i64 last], .agg #[.int .i64 3, .int .i64 at_, .int .i64 id]] w (DoPost w v ⟨R, last, (fn R k).1, true, 0, []⟩) := by
  have hbx := Bx.start w v last 3 at_ id
  have HF := Lib.hid (fun W h => rfind_any v R id W h (by omega))
  have HFI : Hid (findI R id = k) := Lib.hid (by unfold findI; rw [hf])
  have HH := Lib.hid h
  obtain ⟨A, c, rfl, hlc, hlm, hcell⟩ := h
  go_enter Try.func17, Try.ntmps17
  go_wp2_with fail
  generalize ((((w.alloc (.cells #[.slice A R.length c, .int .i64 last] 47)).alloc (.cells #[.int .i64 3, .int .i64 at_, .int .i64 id] 38)).alloc (.cells #[.slice none 0 0, .int .i64 0] 47)).alloc (.cells #[.int .i64 0, .bool false, .int .i64 0, .slice none 0 0] 41)) = W at hbx ⊢
  refine (HF.out _ (HH.out.below hbx.below)).mono ?_
  rintro e w1 ⟨rfl, rfl⟩
  (try rw [HFI.out])
  have HBX := Lib.hid hbx
  obtain ⟨c0, c1, c2, c3, c4, c5, c6, c7, c8, c9, c10⟩ := hbx.cells
  obtain ⟨f0, f1, f2⟩ := hbx.free
  clear hbx
  have kk : ¬ (k : Int) < 0 := by omega
  obtain ⟨d, hd⟩ : ∃ d, R[k]? = some d := ⟨_, List.getElem?_eq_getElem hk⟩
  obtain ⟨b, o, c', hv, e0, e1⟩ := HH.out.at_ hd
  cases hv
  have lb := World.block_lt_of_cell? _ _ e0
  replace e0 := cell_later HBX.out.below e0
  replace e1 := cell_later HBX.out.below e1
  have nb2 : b ≠ w.heap.size + 1 + 1 := by simp at lb; omega
  have nb3 : b ≠ w.heap.size + 1 + 1 + 1 := by simp at lb; omega
  have nb2' : w.heap.size + 1 + 1 ≠ b := by simp at lb; omega
  have nb3' : w.heap.size + 1 + 1 + 1 ≠ b := by simp at lb; omega
  have HFN := Lib.hid (fn_of hd)
  have kl : (k : Int) < (R.length : Int) := by omega
  have k00 : (0 : Int) ≤ (k : Int) := by omega
  clear hcell hlc hlm hd
  go_wp2_with fail
  go_region
  all_goals
    go_wp2_with fail
    (try rw [HFN.out])
    refine Bx.done2 (v := .slice (some ⟨b, o, none⟩) R.length c) (last := last) (kind := 3) (at_ := at_) (id := id) (A := ⟨R, last, d.1, true, 0, []⟩) (v' := .slice (some ⟨b, o, none⟩) R.length c) (vo := .slice none 0 0) ?hb (fun hb => HH.out.below hb) (rd_nil _) (Old.same _ _ _) (Old.nil _ _ _) (by rfl) (by rfl) (by rfl)
    case hb => first | with_reducible exact ((HBX.out.setR _ _).setQ _ _ _ _).drew | with_reducible exact ((HBX.out.setQ _ _ _ _).setR _ _).drew | with_reducible exact (HBX.out.drew.setR _ _).setQ _ _ _ _ | with_reducible exact (HBX.out.drew.setQ _ _ _ _).setR _ _
set_option maxRecDepth 100000 in
set_option maxHeartbeats 1600000 in
theorem do_set_yes (v : Value) (R : List D2) (last at_ id : Int) (w : World) (h : Rd due w v R) (hl : R.length ≤ 1000) (hr : (decide (0 ≤ at_) && decide (at_ ≤ 1099511627776)) = true) (hla : 0 ≤ last ∧ last ≤ 100000) :
    Calls Try.prog 17 #[.agg #[v, .int .i64 last], .agg #[.int .i64 0, .int .i64 at_, .int .i64 id]] w (DoPost w v ⟨putL R (at_, last + 1), last + 1, last + 1, false, 0, []⟩) := by
  have hbx := Bx.start w v last 0 at_ id
  have HF := Lib.hid (fun W h => rfind_any v R id W h (by omega))
  have HFI : Hid (findI R id = findI R id) := Lib.hid (by rfl)
  have HH := Lib.hid h
  obtain ⟨A, c, rfl, hlc, hlm, hcell⟩ := h
  go_enter Try.func17, Try.ntmps17
  go_wp2_with fail
  generalize ((((w.alloc (.cells #[.slice A R.length c, .int .i64 last] 47)).alloc (.cells #[.int .i64 0, .int .i64 at_, .int .i64 id] 38)).alloc (.cells #[.slice none 0 0, .int .i64 0] 47)).alloc (.cells #[.int .i64 0, .bool false, .int .i64 0, .slice none 0 0] 41)) = W at hbx ⊢
  refine (HF.out _ (HH.out.below hbx.below)).mono ?_
  rintro e w1 ⟨rfl, rfl⟩
  (try rw [HFI.out])
  have HBX := Lib.hid hbx
  obtain ⟨c0, c1, c2, c3, c4, c5, c6, c7, c8, c9, c10⟩ := hbx.cells
  obtain ⟨f0, f1, f2⟩ := hbx.free
  clear hbx
  clear hcell hlc hlm
  obtain ⟨hl0, hl1⟩ := hla
  have hl4 : ¬ (4096 : Int) ≤ (R.length : Int) := by omega
  have HBX1 := Lib.hid (HBX.out.setL (last + 1))
  have HPU := Lib.hid (put_any (.slice A R.length c) R (at_, last + 1) (W.setCell ⟨w.heap.size, 1, none⟩ (.int .i64 (last + 1))) (HH.out.below HBX1.out.below) (by omega))
  go_wp2_with (first | (go_at_call 31; refine (rright_any _ _).mono ?_; rintro e w2 ⟨rfl, rfl⟩; rw [hr]) | (go_at_call 32; refine HPU.out.mono ?_; rintro e w2 ⟨v2, rfl, hr2, hf2, hb2⟩; have HF2 := Lib.hid hf2; clear hf2; have hbx2 := HBX1.out.later hb2; have HBX2 := Lib.hid hbx2; have HR2 := Lib.hid hr2; obtain ⟨A2, cc2, rfl, -, -, -⟩ := hr2; clear c0 c1 c2 c3 c4 c5 c6 c7 c8 c9 c10 f0 f1 f2 hb2; obtain ⟨c0, c1, c2, c3, c4, c5, c6, c7, c8, c9, c10⟩ := hbx2.cells; obtain ⟨f0, f1, f2⟩ := hbx2.free; clear hbx2) | fail)
  have HBX3 := Lib.hid (HBX2.out.setA (.slice A2 (putL R (at_, last + 1)).length cc2))
  have HR3 : Hid (Rd due (w2.setCell ⟨w.heap.size, 0, none⟩ (.slice A2 (putL R (at_, last + 1)).length cc2)) (.slice A2 (putL R (at_, last + 1)).length cc2) (putL R (at_, last + 1))) := Lib.hid (by
    refine Rd.only (S := fun k => w.heap.size ≤ k ∧ k < w.heap.size + 4) HR2.out ?_ (fun g hg hs => by have := HF2.out g hg; have := lt_of_heap HBX1.out.q; simp at *; omega)
    repeat (first | with_reducible exact Only.refl _ _ | with_reducible refine Only.setCell ?_ (.inl (by simp; try omega)) _ | with_reducible refine Only.drew ?_))
  have HF3 := Lib.hid (fun g (hg : (Value.slice A2 (putL R (at_, last + 1)).length cc2).ownBlock = some g) (hs : w.heap.size ≤ g ∧ g < w.heap.size + 4) => (by have := HF2.out g hg; have := lt_of_heap HBX1.out.q; simp at *; omega : False))
  have HSZ : Hid (∀ g, (Value.slice A2 (putL R (at_, last + 1)).length cc2).ownBlock = some g → g < (w2.setCell ⟨w.heap.size, 0, none⟩ (.slice A2 (putL R (at_, last + 1)).length cc2)).heap.size) := Lib.hid (fun g hg => by simpa using (HF2.out g hg).2)
  generalize w2.setCell ⟨w.heap.size, 0, none⟩ (.slice A2 (putL R (at_, last + 1)).length cc2) = W3 at HBX3 HR3 HSZ ⊢
  clear c0 c1 c2 c3 c4 c5 c6 c7 c8 c9 c10 f0 f1 f2
  obtain ⟨c0, c1, c2, c3, c4, c5, c6, c7, c8, c9, c10⟩ := HBX3.out.cells
  obtain ⟨f0, f1, f2⟩ := HBX3.out.free
  go_region
  all_goals
    go_wp2_with fail
    refine Bx.done2 (v := .slice A2 (putL R (at_, last + 1)).length cc2) (last := last + 1) (kind := 0) (at_ := at_) (id := id) (A := ⟨putL R (at_, last + 1), last + 1, last + 1, false, 0, []⟩) (v' := .slice A2 (putL R (at_, last + 1)).length cc2) (vo := .slice none 0 0) ?hb ?h1 (rd_nil _) (fun g hg => .inl (by have h1 := HF2.out g hg; have h2 := HBX1.out.below.size; exact ⟨by omega, by simpa using HSZ.out g hg⟩)) (Old.nil _ _ _) (by rfl) (by rfl) (by rfl)
    case hb => first | with_reducible exact ((HBX3.out.setR _ _).setQ _ _ _ _).drew | with_reducible exact ((HBX3.out.setQ _ _ _ _).setR _ _).drew | with_reducible exact (HBX3.out.drew.setR _ _).setQ _ _ _ _ | with_reducible exact (HBX3.out.drew.setQ _ _ _ _).setR _ _
    case h1 =>
      intro _
      refine Rd.only (S := fun k => w.heap.size ≤ k ∧ k < w.heap.size + 4) HR3.out ?_ HF3.out
      repeat (first | with_reducible exact Only.refl _ _ | with_reducible refine Only.setCell ?_ (.inl (by simp; try omega)) _ | with_reducible refine Only.drew ?_)
end Go.Proofs.Ytcnifhkgibopbaa
