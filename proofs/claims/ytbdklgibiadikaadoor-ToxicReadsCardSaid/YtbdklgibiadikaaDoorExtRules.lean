/- The contract of toxic.numbers. -/
import Derived.Test.YtbdklgibiadikaaDoorToxExt
import Derived.Test.YtbdklgibiadikaaDoorPToxA
import Derived.Laws.EntriesVeiled
set_option linter.unusedVariables false
set_option linter.unusedSimpArgs false
namespace Go.Proofs.YtbdklgibiadikaaDoor.Ext
open Go.RowKit Go.Proofs.YtbdklgibiadikaaDoor.PToxA Go.Proofs.YtbdklgibiadikaaDoorW.PrintWords Go.Proofs.YtbdklgibiadikaaDoorW.PrintLast

/-- The five rules, by kind; the fourth and the fifth are one. -/
def ruleMap (b : Nat) : List (Int × Value) :=
  [(1, .func (.func 51) #[] #[]), (2, .func (.func 52) #[] #[.pointer (some ⟨b, 0, none⟩)]), (3, .func (.func 53) #[] #[.pointer (some ⟨b, 0, none⟩)]),
    (4, .func (.func 49) #[] #[]), (5, .func (.func 49) #[] #[])]

theorem rules_walk (w : World) :
    Calls Tryd.prog 39 #[] w fun e w' => e = .returned (.map (some (w.heap.size + 1))) ∧ Below w.heap.size w w' ∧ GMap Tryd.prog 3 ik iok id w' (w.heap.size + 1) (ruleMap w.heap.size) ∧ w'.cell? ⟨w.heap.size, 0, none⟩ = some (.func (.func 50) #[] #[]) := by
  have hmm := @run_makeMap Tryd.prog
  have K := int_like Tryd.underlying3
  have hu := Tryd.underlying53
  have h0 : GMap Tryd.prog 3 ik iok id ((w.alloc (Obj.cells #[Value.func (Fn.func 50) #[] #[]] 38)).alloc (Obj.map #[] 0)) (w.heap.size + 1) ([] : List (Int × Value)) := by
    have := GMap.made (P := Tryd.prog) (kt := 3) (kf := ik) (ok := iok) (vf := (id : Value → Value)) (w.alloc (Obj.cells #[Value.func (Fn.func 50) #[] #[]] 38))
    rw [show (w.alloc (Obj.cells #[Value.func (Fn.func 50) #[] #[]] 38)).heap.size = w.heap.size + 1 from by simp] at this
    exact this
  obtain ⟨w1, r1, g1, o1⟩ := h0.update K hu 1 (by unfold iok; rfl) (Value.func (Fn.func 51) #[] #[])
  obtain ⟨w2, r2, g2, o2⟩ := g1.update K hu 2 (by unfold iok; rfl) (Value.func (Fn.func 52) #[] #[Value.pointer (some ⟨w.heap.size, 0, none⟩)])
  obtain ⟨w3, r3, g3, o3⟩ := g2.update K hu 3 (by unfold iok; rfl) (Value.func (Fn.func 53) #[] #[Value.pointer (some ⟨w.heap.size, 0, none⟩)])
  obtain ⟨w4, r4, g4, o4⟩ := g3.update K hu 4 (by unfold iok; rfl) (Value.func (Fn.func 49) #[] #[])
  obtain ⟨w5, r5, g5, o5⟩ := g4.update K hu 5 (by unfold iok; rfl) (Value.func (Fn.func 49) #[] #[])
  have R1 : (Instr.mapUpdate 53 (Value.map (some (w.heap.size + 1))) (Value.int IntKind.i64 1) (Value.func (Fn.func 51) #[] #[])).run Tryd.prog ((w.alloc (Obj.cells #[Value.func (Fn.func 50) #[] #[]] 38)).alloc (Obj.map #[] 0)) = .ok () w1 := r1
  have R2 : (Instr.mapUpdate 53 (Value.map (some (w.heap.size + 1))) (Value.int IntKind.i64 2) (Value.func (Fn.func 52) #[] #[Value.pointer (some ⟨w.heap.size, 0, none⟩)])).run Tryd.prog w1 = .ok () w2 := r2
  have R3 : (Instr.mapUpdate 53 (Value.map (some (w.heap.size + 1))) (Value.int IntKind.i64 3) (Value.func (Fn.func 53) #[] #[Value.pointer (some ⟨w.heap.size, 0, none⟩)])).run Tryd.prog w2 = .ok () w3 := r3
  have R4 : (Instr.mapUpdate 53 (Value.map (some (w.heap.size + 1))) (Value.int IntKind.i64 4) (Value.func (Fn.func 49) #[] #[])).run Tryd.prog w3 = .ok () w4 := r4
  have R5 : (Instr.mapUpdate 53 (Value.map (some (w.heap.size + 1))) (Value.int IntKind.i64 5) (Value.func (Fn.func 49) #[] #[])).run Tryd.prog w4 = .ok () w5 := r5
  have hm : GMap Tryd.prog 3 ik iok id w5 (w.heap.size + 1) (ruleMap w.heap.size) := g5
  have ho : Only (· = w.heap.size + 1) ((w.alloc (Obj.cells #[Value.func (Fn.func 50) #[] #[]] 38)).alloc (Obj.map #[] 0)) w5 := (((o1.then_ o2).then_ o3).then_ o4).then_ o5
  have hc : w5.cell? ⟨w.heap.size, 0, none⟩ = some (.func (.func 50) #[] #[]) := by
    refine ho.cell ?_ (by simp)
    simp [World.cell?, (heap_two w (Obj.cells #[Value.func (Fn.func 50) #[] #[]] 38) (Obj.map #[] 0)).1]
  have hb : Below w.heap.size w w5 := Below.only (((Below.refl _ w).alloc (Nat.le_refl _) _).alloc (by simp) _) ho (by simp; omega) (fun k hk => by omega)
  clear r1 r2 r3 r4 r5 g1 g2 g3 g4 g5 o1 o2 o3 o4 o5 h0 K hu
  have HM := Lib.hid hm
  have HC := Lib.hid hc
  have HB := Lib.hid hb
  clear hm hc hb ho
  go_enter Tryd.func39, Tryd.ntmps39
  go_wp2_with fail
  go_ret
  exact ⟨rfl, HB.out, HM.out, HC.out⟩
theorem rule1 (a b : Int) (w : World) :
    Calls Tryd.prog 49 #[.int .i64 a, .int .i64 b] w fun e w' => e = .returned (.bool (decide (0 < a))) ∧ w = w' := by
  go_enter Tryd.func49, Tryd.ntmps49
  go_wp2
  go_ret
  exact ⟨rfl, rfl⟩
theorem rule3 (a b : Int) (w : World) :
    Calls Tryd.prog 51 #[.int .i64 a, .int .i64 b] w fun e w' => e = .returned (.bool (decide (b ≤ a))) ∧ w = w' := by
  go_enter Tryd.func51, Tryd.ntmps51
  go_wp2
  go_ret
  exact ⟨rfl, rfl⟩
theorem room (a : Int) (w : World) :
    Calls Tryd.prog 50 #[.int .i64 a] w fun e w' => e = .returned (.bool (decide (1 ≤ a) && decide (a ≤ 4096))) ∧ w = w' := by
  go_enter Tryd.func50, Tryd.ntmps50
  by_cases h : 1 ≤ a
  all_goals
    go_wp2
    go_ret
    exact ⟨by first | (simp [h]; done) | (simp; omega), rfl⟩
theorem rule4 (a b : Int) (p : Nat) (w : World) (hc : w.cell? ⟨p, 0, none⟩ = some (.func (.func 50) #[] #[])) :
    Calls Tryd.prog 52 #[.int .i64 a, .int .i64 b, .pointer (some ⟨p, 0, none⟩)] w fun e w' => e = .returned (.bool (decide (1 ≤ b) && decide (b ≤ 4096))) ∧ w = w' := by
  go_enter Tryd.func52, Tryd.ntmps52
  go_wp2_with (first | (refine (room b _).mono ?_; rintro e w1 ⟨rfl, rfl⟩) | fail)
  go_ret
  exact ⟨rfl, rfl⟩
theorem rule5 (a b : Int) (p : Nat) (w : World) (hc : w.cell? ⟨p, 0, none⟩ = some (.func (.func 50) #[] #[])) :
    Calls Tryd.prog 53 #[.int .i64 a, .int .i64 b, .pointer (some ⟨p, 0, none⟩)] w fun e w' => e = .returned (.bool (decide (1 ≤ a) && decide (a ≤ 4096))) ∧ w = w' := by
  go_enter Tryd.func53, Tryd.ntmps53
  go_wp2_with (first | (refine (room a _).mono ?_; rintro e w1 ⟨rfl, rfl⟩) | fail)
  go_ret
  exact ⟨rfl, rfl⟩

def tickOk (a : Int) : Bool := decide (0 ≤ a) && decide (a ≤ 1099511627776)
def ruleOk (kind a b : Int) : Bool :=
  if kind = 1 then decide (b ≤ a) else if kind = 2 then decide (1 ≤ b) && decide (b ≤ 4096) else if kind = 3 then decide (1 ≤ a) && decide (a ≤ 4096)
  else if kind = 4 ∨ kind = 5 then decide (0 < a) else true
def numbersOk (kind a b : Int) : Bool := tickOk a && tickOk b && (b == 0 || decide (kind ≤ 3)) && ruleOk kind a b
def toxic_numbers.f (a0 : ByteArray) (a1 : Int) (a2 : Bool) (a3 a4 a5 : Int) : Option Bool := if 1 ≤ a1 ∧ a1 ≤ 7 then some (numbersOk a1 a4 a5) else none

theorem lookup_rule (W : World) (b : Nat) (h : GMap Tryd.prog 3 ik iok id W (b + 1) (ruleMap b)) (kind : Int) (hk : iok kind) :
    (Instr.lookup 53 (.map (some (b + 1))) (.int .i64 kind) false).run Tryd.prog W = .ok (match mget (ruleMap b) kind with | some v => v | none => .nilFunc) W := by
  have := h.lookup (int_like Tryd.underlying3) Tryd.underlying53 (z := .nilFunc) (by rfl) kind hk false
  rw [show ik kind = Value.int .i64 kind from rfl] at this
  rw [this]
  cases mget (ruleMap b) kind <;> rfl

set_option maxRecDepth 100000 in
set_option maxRecDepth 100000 in
set_option maxRecDepth 100000 in
set_option maxRecDepth 100000 in
theorem numbers_1 (s : ByteArray) (up : Bool) (o a b : Int) (w : World) :
    Calls Tryd.prog 26 #[.agg #[.string s, .int .i64 1, .bool up, .int .i64 o, .int .i64 a, .int .i64 b]] w fun e w' => e = .returned (.bool (numbersOk 1 a b)) ∧ Below w.heap.size w w' := by
  have HRA := right_any a
  have HRB := right_any b
  rw [show (decide (0 ≤ a) && decide (a ≤ 1099511627776)) = tickOk a from rfl] at HRA
  rw [show (decide (0 ≤ b) && decide (b ≤ 1099511627776)) = tickOk b from rfl] at HRB
  have hres : numbersOk 1 a b = (tickOk a && tickOk b && (b == 0 || true) && decide (b ≤ a)) := rfl
  rw [hres]
  clear hres
  go_enter Tryd.func26, Tryd.ntmps26
  go_wp2_with fail
  go_region_held3 (fun W => W.cell? ⟨w.heap.size, 1, none⟩ = some (.int .i64 1))
    (first | go_keep | exact cell_later hb1 (by assumption))
    (first | (go_at_call 39; refine (rules_walk _).mono ?_; rintro e W1 ⟨rfl, hb1, hm1, hc1⟩; have hlk : (Instr.lookup 53 (.map (some (w.heap.size + 1 + 1))) (.int .i64 1) false).run Tryd.prog W1 = .ok (.func (.func 51) #[] #[]) W1 := lookup_rule W1 (w.heap.size + 1) (by simpa using hm1) 1 (by unfold iok; rfl); have hc2 : W1.cell? ⟨w.heap.size + 1, 0, none⟩ = some (.func (.func 50) #[] #[]) := (by simpa using hc1); clear hc1 hm1))
  have hA : W1.cell? ⟨w.heap.size, 4, none⟩ = some (.int .i64 a) := cell_later hb1 (by simp)
  have hB : W1.cell? ⟨w.heap.size, 5, none⟩ = some (.int .i64 b) := cell_later hb1 (by simp)
  have hK : W1.cell? ⟨w.heap.size, 1, none⟩ = some (.int .i64 1) := cell_later hb1 (by simp)
  have hB1 : Below w.heap.size w W1 := ((Below.refl _ w).alloc (Nat.le_refl _) _).drew.trans (hb1.mono (by simp))
  have HB1 := Lib.hid hB1
  clear hB1 hb1 hlk
  cases hta : tickOk a
  · rw [hta] at HRA
    go_wp2_with (first | (go_at_call 40; refine (HRA _).mono ?_; rintro e w2 ⟨rfl, rfl⟩) | fail)
    go_ret
    exact ⟨by rw [hta]; rfl, HB1.out⟩
  rw [hta] at HRA
  cases htb : tickOk b
  · rw [htb] at HRB
    go_wp2_with (first | (go_at_call 40; first | (with_reducible refine (HRA _).mono ?_; rintro e w2 ⟨rfl, rfl⟩) | (with_reducible refine (HRB _).mono ?_; rintro e w3 ⟨rfl, rfl⟩)) | fail)
    go_ret
    exact ⟨by rw [hta, htb]; rfl, HB1.out⟩
  rw [htb] at HRB
  have HN := toxic_Numbers.calls 1 2 W1 (by kernel_rfl)
  have hq : ∀ W, (binOp BinOp.eql 52 (.func (.func 51) #[] #[]) Value.nilFunc).run Tryd.prog W = .ok (.bool false) W := fun _ => rfl
  cases hb0 : (b == 0)
  · go_wp2_with (first | (go_at_call 40; first | (with_reducible refine (HRA _).mono ?_; rintro e w2 ⟨rfl, rfl⟩) | (with_reducible refine (HRB _).mono ?_; rintro e w3 ⟨rfl, rfl⟩)) | (go_at_call 19; refine HN.mono ?_; rintro e w4 ⟨rfl, hb4⟩; have hA' := cell_later hb4 hA; have hB' := cell_later hb4 hB; have hc2' := cell_later hb4 hc2) | (go_at_call 51; refine (rule3 a b _).mono ?_; rintro e w2 ⟨rfl, rfl⟩) | fail)
    go_ret
    exact ⟨by rw [hta, htb, hb0]; rfl, HB1.out.trans (hb4.mono HB1.out.size)⟩
  · go_wp2_with (first | (go_at_call 40; first | (with_reducible refine (HRA _).mono ?_; rintro e w2 ⟨rfl, rfl⟩) | (with_reducible refine (HRB _).mono ?_; rintro e w3 ⟨rfl, rfl⟩)) | (go_at_call 51; refine (rule3 a b _).mono ?_; rintro e w2 ⟨rfl, rfl⟩) | fail)
    go_ret
    exact ⟨by rw [hta, htb, hb0]; rfl, HB1.out⟩

set_option maxRecDepth 100000 in
theorem numbers_2 (s : ByteArray) (up : Bool) (o a b : Int) (w : World) :
    Calls Tryd.prog 26 #[.agg #[.string s, .int .i64 2, .bool up, .int .i64 o, .int .i64 a, .int .i64 b]] w fun e w' => e = .returned (.bool (numbersOk 2 a b)) ∧ Below w.heap.size w w' := by
  have HRA := right_any a
  have HRB := right_any b
  rw [show (decide (0 ≤ a) && decide (a ≤ 1099511627776)) = tickOk a from rfl] at HRA
  rw [show (decide (0 ≤ b) && decide (b ≤ 1099511627776)) = tickOk b from rfl] at HRB
  have hres : numbersOk 2 a b = (tickOk a && tickOk b && (b == 0 || true) && (decide (1 ≤ b) && decide (b ≤ 4096))) := rfl
  rw [hres]
  clear hres
  go_enter Tryd.func26, Tryd.ntmps26
  go_wp2_with fail
  go_region_held3 (fun W => W.cell? ⟨w.heap.size, 1, none⟩ = some (.int .i64 2))
    (first | go_keep | exact cell_later hb1 (by assumption))
    (first | (go_at_call 39; refine (rules_walk _).mono ?_; rintro e W1 ⟨rfl, hb1, hm1, hc1⟩; have hlk : (Instr.lookup 53 (.map (some (w.heap.size + 1 + 1))) (.int .i64 2) false).run Tryd.prog W1 = .ok (.func (.func 52) #[] #[.pointer (some ⟨w.heap.size + 1, 0, none⟩)]) W1 := lookup_rule W1 (w.heap.size + 1) (by simpa using hm1) 2 (by unfold iok; rfl); have hc2 : W1.cell? ⟨w.heap.size + 1, 0, none⟩ = some (.func (.func 50) #[] #[]) := (by simpa using hc1); clear hc1 hm1))
  have hA : W1.cell? ⟨w.heap.size, 4, none⟩ = some (.int .i64 a) := cell_later hb1 (by simp)
  have hB : W1.cell? ⟨w.heap.size, 5, none⟩ = some (.int .i64 b) := cell_later hb1 (by simp)
  have hK : W1.cell? ⟨w.heap.size, 1, none⟩ = some (.int .i64 2) := cell_later hb1 (by simp)
  have hB1 : Below w.heap.size w W1 := ((Below.refl _ w).alloc (Nat.le_refl _) _).drew.trans (hb1.mono (by simp))
  have HB1 := Lib.hid hB1
  clear hB1 hb1 hlk
  cases hta : tickOk a
  · rw [hta] at HRA
    go_wp2_with (first | (go_at_call 40; refine (HRA _).mono ?_; rintro e w2 ⟨rfl, rfl⟩) | fail)
    go_ret
    exact ⟨by rw [hta]; rfl, HB1.out⟩
  rw [hta] at HRA
  cases htb : tickOk b
  · rw [htb] at HRB
    go_wp2_with (first | (go_at_call 40; first | (with_reducible refine (HRA _).mono ?_; rintro e w2 ⟨rfl, rfl⟩) | (with_reducible refine (HRB _).mono ?_; rintro e w3 ⟨rfl, rfl⟩)) | fail)
    go_ret
    exact ⟨by rw [hta, htb]; rfl, HB1.out⟩
  rw [htb] at HRB
  have HN := toxic_Numbers.calls 2 2 W1 (by kernel_rfl)
  have hq : ∀ W, (binOp BinOp.eql 52 (.func (.func 52) #[] #[.pointer (some ⟨w.heap.size + 1, 0, none⟩)]) Value.nilFunc).run Tryd.prog W = .ok (.bool false) W := fun _ => rfl
  cases hb0 : (b == 0)
  · go_wp2_with (first | (go_at_call 40; first | (with_reducible refine (HRA _).mono ?_; rintro e w2 ⟨rfl, rfl⟩) | (with_reducible refine (HRB _).mono ?_; rintro e w3 ⟨rfl, rfl⟩)) | (go_at_call 19; refine HN.mono ?_; rintro e w4 ⟨rfl, hb4⟩; have hA' := cell_later hb4 hA; have hB' := cell_later hb4 hB; have hc2' := cell_later hb4 hc2) | (go_at_call 52; refine (rule4 a b _ _ hc2').mono ?_; rintro e w2 ⟨rfl, rfl⟩) | fail)
    go_ret
    exact ⟨by rw [hta, htb, hb0]; rfl, HB1.out.trans (hb4.mono HB1.out.size)⟩
  · go_wp2_with (first | (go_at_call 40; first | (with_reducible refine (HRA _).mono ?_; rintro e w2 ⟨rfl, rfl⟩) | (with_reducible refine (HRB _).mono ?_; rintro e w3 ⟨rfl, rfl⟩)) | (go_at_call 52; refine (rule4 a b _ _ hc2).mono ?_; rintro e w2 ⟨rfl, rfl⟩) | fail)
    go_ret
    exact ⟨by rw [hta, htb, hb0]; rfl, HB1.out⟩

set_option maxRecDepth 100000 in
theorem numbers_3 (s : ByteArray) (up : Bool) (o a b : Int) (w : World) :
    Calls Tryd.prog 26 #[.agg #[.string s, .int .i64 3, .bool up, .int .i64 o, .int .i64 a, .int .i64 b]] w fun e w' => e = .returned (.bool (numbersOk 3 a b)) ∧ Below w.heap.size w w' := by
  have HRA := right_any a
  have HRB := right_any b
  rw [show (decide (0 ≤ a) && decide (a ≤ 1099511627776)) = tickOk a from rfl] at HRA
  rw [show (decide (0 ≤ b) && decide (b ≤ 1099511627776)) = tickOk b from rfl] at HRB
  have hres : numbersOk 3 a b = (tickOk a && tickOk b && (b == 0 || true) && (decide (1 ≤ a) && decide (a ≤ 4096))) := rfl
  rw [hres]
  clear hres
  go_enter Tryd.func26, Tryd.ntmps26
  go_wp2_with fail
  go_region_held3 (fun W => W.cell? ⟨w.heap.size, 1, none⟩ = some (.int .i64 3))
    (first | go_keep | exact cell_later hb1 (by assumption))
    (first | (go_at_call 39; refine (rules_walk _).mono ?_; rintro e W1 ⟨rfl, hb1, hm1, hc1⟩; have hlk : (Instr.lookup 53 (.map (some (w.heap.size + 1 + 1))) (.int .i64 3) false).run Tryd.prog W1 = .ok (.func (.func 53) #[] #[.pointer (some ⟨w.heap.size + 1, 0, none⟩)]) W1 := lookup_rule W1 (w.heap.size + 1) (by simpa using hm1) 3 (by unfold iok; rfl); have hc2 : W1.cell? ⟨w.heap.size + 1, 0, none⟩ = some (.func (.func 50) #[] #[]) := (by simpa using hc1); clear hc1 hm1))
  have hA : W1.cell? ⟨w.heap.size, 4, none⟩ = some (.int .i64 a) := cell_later hb1 (by simp)
  have hB : W1.cell? ⟨w.heap.size, 5, none⟩ = some (.int .i64 b) := cell_later hb1 (by simp)
  have hK : W1.cell? ⟨w.heap.size, 1, none⟩ = some (.int .i64 3) := cell_later hb1 (by simp)
  have hB1 : Below w.heap.size w W1 := ((Below.refl _ w).alloc (Nat.le_refl _) _).drew.trans (hb1.mono (by simp))
  have HB1 := Lib.hid hB1
  clear hB1 hb1 hlk
  cases hta : tickOk a
  · rw [hta] at HRA
    go_wp2_with (first | (go_at_call 40; refine (HRA _).mono ?_; rintro e w2 ⟨rfl, rfl⟩) | fail)
    go_ret
    exact ⟨by rw [hta]; rfl, HB1.out⟩
  rw [hta] at HRA
  cases htb : tickOk b
  · rw [htb] at HRB
    go_wp2_with (first | (go_at_call 40; first | (with_reducible refine (HRA _).mono ?_; rintro e w2 ⟨rfl, rfl⟩) | (with_reducible refine (HRB _).mono ?_; rintro e w3 ⟨rfl, rfl⟩)) | fail)
    go_ret
    exact ⟨by rw [hta, htb]; rfl, HB1.out⟩
  rw [htb] at HRB
  have HN := toxic_Numbers.calls 3 2 W1 (by kernel_rfl)
  have hq : ∀ W, (binOp BinOp.eql 52 (.func (.func 53) #[] #[.pointer (some ⟨w.heap.size + 1, 0, none⟩)]) Value.nilFunc).run Tryd.prog W = .ok (.bool false) W := fun _ => rfl
  cases hb0 : (b == 0)
  · go_wp2_with (first | (go_at_call 40; first | (with_reducible refine (HRA _).mono ?_; rintro e w2 ⟨rfl, rfl⟩) | (with_reducible refine (HRB _).mono ?_; rintro e w3 ⟨rfl, rfl⟩)) | (go_at_call 19; refine HN.mono ?_; rintro e w4 ⟨rfl, hb4⟩; have hA' := cell_later hb4 hA; have hB' := cell_later hb4 hB; have hc2' := cell_later hb4 hc2) | (go_at_call 53; refine (rule5 a b _ _ hc2').mono ?_; rintro e w2 ⟨rfl, rfl⟩) | fail)
    go_ret
    exact ⟨by rw [hta, htb, hb0]; rfl, HB1.out.trans (hb4.mono HB1.out.size)⟩
  · go_wp2_with (first | (go_at_call 40; first | (with_reducible refine (HRA _).mono ?_; rintro e w2 ⟨rfl, rfl⟩) | (with_reducible refine (HRB _).mono ?_; rintro e w3 ⟨rfl, rfl⟩)) | (go_at_call 53; refine (rule5 a b _ _ hc2).mono ?_; rintro e w2 ⟨rfl, rfl⟩) | fail)
    go_ret
    exact ⟨by rw [hta, htb, hb0]; rfl, HB1.out⟩

set_option maxRecDepth 100000 in
theorem numbers_4 (s : ByteArray) (up : Bool) (o a b : Int) (w : World) :
    Calls Tryd.prog 26 #[.agg #[.string s, .int .i64 4, .bool up, .int .i64 o, .int .i64 a, .int .i64 b]] w fun e w' => e = .returned (.bool (numbersOk 4 a b)) ∧ Below w.heap.size w w' := by
  have HRA := right_any a
  have HRB := right_any b
  rw [show (decide (0 ≤ a) && decide (a ≤ 1099511627776)) = tickOk a from rfl] at HRA
  rw [show (decide (0 ≤ b) && decide (b ≤ 1099511627776)) = tickOk b from rfl] at HRB
  have hres : numbersOk 4 a b = (tickOk a && tickOk b && (b == 0 || false) && decide (0 < a)) := rfl
  rw [hres]
  clear hres
  go_enter Tryd.func26, Tryd.ntmps26
  go_wp2_with fail
  go_region_held3 (fun W => W.cell? ⟨w.heap.size, 1, none⟩ = some (.int .i64 4))
    (first | go_keep | exact cell_later hb1 (by assumption))
    (first | (go_at_call 39; refine (rules_walk _).mono ?_; rintro e W1 ⟨rfl, hb1, hm1, hc1⟩; have hlk : (Instr.lookup 53 (.map (some (w.heap.size + 1 + 1))) (.int .i64 4) false).run Tryd.prog W1 = .ok (.func (.func 49) #[] #[]) W1 := lookup_rule W1 (w.heap.size + 1) (by simpa using hm1) 4 (by unfold iok; rfl); have hc2 : W1.cell? ⟨w.heap.size + 1, 0, none⟩ = some (.func (.func 50) #[] #[]) := (by simpa using hc1); clear hc1 hm1))
  have hA : W1.cell? ⟨w.heap.size, 4, none⟩ = some (.int .i64 a) := cell_later hb1 (by simp)
  have hB : W1.cell? ⟨w.heap.size, 5, none⟩ = some (.int .i64 b) := cell_later hb1 (by simp)
  have hK : W1.cell? ⟨w.heap.size, 1, none⟩ = some (.int .i64 4) := cell_later hb1 (by simp)
  have hB1 : Below w.heap.size w W1 := ((Below.refl _ w).alloc (Nat.le_refl _) _).drew.trans (hb1.mono (by simp))
  have HB1 := Lib.hid hB1
  clear hB1 hb1 hlk
  cases hta : tickOk a
  · rw [hta] at HRA
    go_wp2_with (first | (go_at_call 40; refine (HRA _).mono ?_; rintro e w2 ⟨rfl, rfl⟩) | fail)
    go_ret
    exact ⟨by rw [hta]; rfl, HB1.out⟩
  rw [hta] at HRA
  cases htb : tickOk b
  · rw [htb] at HRB
    go_wp2_with (first | (go_at_call 40; first | (with_reducible refine (HRA _).mono ?_; rintro e w2 ⟨rfl, rfl⟩) | (with_reducible refine (HRB _).mono ?_; rintro e w3 ⟨rfl, rfl⟩)) | fail)
    go_ret
    exact ⟨by rw [hta, htb]; rfl, HB1.out⟩
  rw [htb] at HRB
  have HN := toxic_Numbers.calls 4 1 W1 (by kernel_rfl)
  have hq : ∀ W, (binOp BinOp.eql 52 (.func (.func 49) #[] #[]) Value.nilFunc).run Tryd.prog W = .ok (.bool false) W := fun _ => rfl
  cases hb0 : (b == 0)
  · go_wp2_with (first | (go_at_call 40; first | (with_reducible refine (HRA _).mono ?_; rintro e w2 ⟨rfl, rfl⟩) | (with_reducible refine (HRB _).mono ?_; rintro e w3 ⟨rfl, rfl⟩)) | (go_at_call 19; refine HN.mono ?_; rintro e w4 ⟨rfl, hb4⟩; have hA' := cell_later hb4 hA; have hB' := cell_later hb4 hB; have hc2' := cell_later hb4 hc2) | (go_at_call 49; refine (rule1 a b _).mono ?_; rintro e w2 ⟨rfl, rfl⟩) | fail)
    go_ret
    exact ⟨by rw [hta, htb, hb0]; rfl, HB1.out.trans (hb4.mono HB1.out.size)⟩
  · go_wp2_with (first | (go_at_call 40; first | (with_reducible refine (HRA _).mono ?_; rintro e w2 ⟨rfl, rfl⟩) | (with_reducible refine (HRB _).mono ?_; rintro e w3 ⟨rfl, rfl⟩)) | (go_at_call 49; refine (rule1 a b _).mono ?_; rintro e w2 ⟨rfl, rfl⟩) | fail)
    go_ret
    exact ⟨by rw [hta, htb, hb0]; rfl, HB1.out⟩

set_option maxRecDepth 100000 in
theorem numbers_5 (s : ByteArray) (up : Bool) (o a b : Int) (w : World) :
    Calls Tryd.prog 26 #[.agg #[.string s, .int .i64 5, .bool up, .int .i64 o, .int .i64 a, .int .i64 b]] w fun e w' => e = .returned (.bool (numbersOk 5 a b)) ∧ Below w.heap.size w w' := by
  have HRA := right_any a
  have HRB := right_any b
  rw [show (decide (0 ≤ a) && decide (a ≤ 1099511627776)) = tickOk a from rfl] at HRA
  rw [show (decide (0 ≤ b) && decide (b ≤ 1099511627776)) = tickOk b from rfl] at HRB
  have hres : numbersOk 5 a b = (tickOk a && tickOk b && (b == 0 || false) && decide (0 < a)) := rfl
  rw [hres]
  clear hres
  go_enter Tryd.func26, Tryd.ntmps26
  go_wp2_with fail
  go_region_held3 (fun W => W.cell? ⟨w.heap.size, 1, none⟩ = some (.int .i64 5))
    (first | go_keep | exact cell_later hb1 (by assumption))
    (first | (go_at_call 39; refine (rules_walk _).mono ?_; rintro e W1 ⟨rfl, hb1, hm1, hc1⟩; have hlk : (Instr.lookup 53 (.map (some (w.heap.size + 1 + 1))) (.int .i64 5) false).run Tryd.prog W1 = .ok (.func (.func 49) #[] #[]) W1 := lookup_rule W1 (w.heap.size + 1) (by simpa using hm1) 5 (by unfold iok; rfl); have hc2 : W1.cell? ⟨w.heap.size + 1, 0, none⟩ = some (.func (.func 50) #[] #[]) := (by simpa using hc1); clear hc1 hm1))
  have hA : W1.cell? ⟨w.heap.size, 4, none⟩ = some (.int .i64 a) := cell_later hb1 (by simp)
  have hB : W1.cell? ⟨w.heap.size, 5, none⟩ = some (.int .i64 b) := cell_later hb1 (by simp)
  have hK : W1.cell? ⟨w.heap.size, 1, none⟩ = some (.int .i64 5) := cell_later hb1 (by simp)
  have hB1 : Below w.heap.size w W1 := ((Below.refl _ w).alloc (Nat.le_refl _) _).drew.trans (hb1.mono (by simp))
  have HB1 := Lib.hid hB1
  clear hB1 hb1 hlk
  cases hta : tickOk a
  · rw [hta] at HRA
    go_wp2_with (first | (go_at_call 40; refine (HRA _).mono ?_; rintro e w2 ⟨rfl, rfl⟩) | fail)
    go_ret
    exact ⟨by rw [hta]; rfl, HB1.out⟩
  rw [hta] at HRA
  cases htb : tickOk b
  · rw [htb] at HRB
    go_wp2_with (first | (go_at_call 40; first | (with_reducible refine (HRA _).mono ?_; rintro e w2 ⟨rfl, rfl⟩) | (with_reducible refine (HRB _).mono ?_; rintro e w3 ⟨rfl, rfl⟩)) | fail)
    go_ret
    exact ⟨by rw [hta, htb]; rfl, HB1.out⟩
  rw [htb] at HRB
  have HN := toxic_Numbers.calls 5 1 W1 (by kernel_rfl)
  have hq : ∀ W, (binOp BinOp.eql 52 (.func (.func 49) #[] #[]) Value.nilFunc).run Tryd.prog W = .ok (.bool false) W := fun _ => rfl
  cases hb0 : (b == 0)
  · go_wp2_with (first | (go_at_call 40; first | (with_reducible refine (HRA _).mono ?_; rintro e w2 ⟨rfl, rfl⟩) | (with_reducible refine (HRB _).mono ?_; rintro e w3 ⟨rfl, rfl⟩)) | (go_at_call 19; refine HN.mono ?_; rintro e w4 ⟨rfl, hb4⟩; have hA' := cell_later hb4 hA; have hB' := cell_later hb4 hB; have hc2' := cell_later hb4 hc2) | (go_at_call 49; refine (rule1 a b _).mono ?_; rintro e w2 ⟨rfl, rfl⟩) | fail)
    go_ret
    exact ⟨by rw [hta, htb, hb0]; rfl, HB1.out.trans (hb4.mono HB1.out.size)⟩
  · go_wp2_with (first | (go_at_call 40; first | (with_reducible refine (HRA _).mono ?_; rintro e w2 ⟨rfl, rfl⟩) | (with_reducible refine (HRB _).mono ?_; rintro e w3 ⟨rfl, rfl⟩)) | (go_at_call 49; refine (rule1 a b _).mono ?_; rintro e w2 ⟨rfl, rfl⟩) | fail)
    go_ret
    exact ⟨by rw [hta, htb, hb0]; rfl, HB1.out⟩

set_option maxRecDepth 100000 in
theorem numbers_6 (s : ByteArray) (up : Bool) (o a b : Int) (w : World) :
    Calls Tryd.prog 26 #[.agg #[.string s, .int .i64 6, .bool up, .int .i64 o, .int .i64 a, .int .i64 b]] w fun e w' => e = .returned (.bool (numbersOk 6 a b)) ∧ Below w.heap.size w w' := by
  have HRA := right_any a
  have HRB := right_any b
  rw [show (decide (0 ≤ a) && decide (a ≤ 1099511627776)) = tickOk a from rfl] at HRA
  rw [show (decide (0 ≤ b) && decide (b ≤ 1099511627776)) = tickOk b from rfl] at HRB
  have hres : numbersOk 6 a b = (tickOk a && tickOk b && (b == 0 || false) && true) := rfl
  rw [hres]
  clear hres
  go_enter Tryd.func26, Tryd.ntmps26
  go_wp2_with fail
  go_region_held3 (fun W => W.cell? ⟨w.heap.size, 1, none⟩ = some (.int .i64 6))
    (first | go_keep | exact cell_later hb1 (by assumption))
    (first | (go_at_call 39; refine (rules_walk _).mono ?_; rintro e W1 ⟨rfl, hb1, hm1, hc1⟩; have hlk : (Instr.lookup 53 (.map (some (w.heap.size + 1 + 1))) (.int .i64 6) false).run Tryd.prog W1 = .ok (.nilFunc) W1 := lookup_rule W1 (w.heap.size + 1) (by simpa using hm1) 6 (by unfold iok; rfl); have hc2 : W1.cell? ⟨w.heap.size + 1, 0, none⟩ = some (.func (.func 50) #[] #[]) := (by simpa using hc1); clear hc1 hm1))
  have hA : W1.cell? ⟨w.heap.size, 4, none⟩ = some (.int .i64 a) := cell_later hb1 (by simp)
  have hB : W1.cell? ⟨w.heap.size, 5, none⟩ = some (.int .i64 b) := cell_later hb1 (by simp)
  have hK : W1.cell? ⟨w.heap.size, 1, none⟩ = some (.int .i64 6) := cell_later hb1 (by simp)
  have hB1 : Below w.heap.size w W1 := ((Below.refl _ w).alloc (Nat.le_refl _) _).drew.trans (hb1.mono (by simp))
  have HB1 := Lib.hid hB1
  clear hB1 hb1 hlk
  cases hta : tickOk a
  · rw [hta] at HRA
    go_wp2_with (first | (go_at_call 40; refine (HRA _).mono ?_; rintro e w2 ⟨rfl, rfl⟩) | fail)
    go_ret
    exact ⟨by rw [hta]; rfl, HB1.out⟩
  rw [hta] at HRA
  cases htb : tickOk b
  · rw [htb] at HRB
    go_wp2_with (first | (go_at_call 40; first | (with_reducible refine (HRA _).mono ?_; rintro e w2 ⟨rfl, rfl⟩) | (with_reducible refine (HRB _).mono ?_; rintro e w3 ⟨rfl, rfl⟩)) | fail)
    go_ret
    exact ⟨by rw [hta, htb]; rfl, HB1.out⟩
  rw [htb] at HRB
  have HN := toxic_Numbers.calls 6 1 W1 (by kernel_rfl)
  have hq : ∀ W, (binOp BinOp.eql 52 (.nilFunc) Value.nilFunc).run Tryd.prog W = .ok (.bool true) W := fun _ => rfl
  cases hb0 : (b == 0)
  · go_wp2_with (first | (go_at_call 40; first | (with_reducible refine (HRA _).mono ?_; rintro e w2 ⟨rfl, rfl⟩) | (with_reducible refine (HRB _).mono ?_; rintro e w3 ⟨rfl, rfl⟩)) | (go_at_call 19; refine HN.mono ?_; rintro e w4 ⟨rfl, hb4⟩; have hA' := cell_later hb4 hA; have hB' := cell_later hb4 hB; have hc2' := cell_later hb4 hc2) | fail)
    go_ret
    exact ⟨by rw [hta, htb, hb0]; rfl, HB1.out.trans (hb4.mono HB1.out.size)⟩
  · go_wp2_with (first | (go_at_call 40; first | (with_reducible refine (HRA _).mono ?_; rintro e w2 ⟨rfl, rfl⟩) | (with_reducible refine (HRB _).mono ?_; rintro e w3 ⟨rfl, rfl⟩)) | fail)
    go_ret
    exact ⟨by rw [hta, htb, hb0]; rfl, HB1.out⟩

set_option maxRecDepth 100000 in
theorem numbers_7 (s : ByteArray) (up : Bool) (o a b : Int) (w : World) :
    Calls Tryd.prog 26 #[.agg #[.string s, .int .i64 7, .bool up, .int .i64 o, .int .i64 a, .int .i64 b]] w fun e w' => e = .returned (.bool (numbersOk 7 a b)) ∧ Below w.heap.size w w' := by
  have HRA := right_any a
  have HRB := right_any b
  rw [show (decide (0 ≤ a) && decide (a ≤ 1099511627776)) = tickOk a from rfl] at HRA
  rw [show (decide (0 ≤ b) && decide (b ≤ 1099511627776)) = tickOk b from rfl] at HRB
  have hres : numbersOk 7 a b = (tickOk a && tickOk b && (b == 0 || false) && true) := rfl
  rw [hres]
  clear hres
  go_enter Tryd.func26, Tryd.ntmps26
  go_wp2_with fail
  go_region_held3 (fun W => W.cell? ⟨w.heap.size, 1, none⟩ = some (.int .i64 7))
    (first | go_keep | exact cell_later hb1 (by assumption))
    (first | (go_at_call 39; refine (rules_walk _).mono ?_; rintro e W1 ⟨rfl, hb1, hm1, hc1⟩; have hlk : (Instr.lookup 53 (.map (some (w.heap.size + 1 + 1))) (.int .i64 7) false).run Tryd.prog W1 = .ok (.nilFunc) W1 := lookup_rule W1 (w.heap.size + 1) (by simpa using hm1) 7 (by unfold iok; rfl); have hc2 : W1.cell? ⟨w.heap.size + 1, 0, none⟩ = some (.func (.func 50) #[] #[]) := (by simpa using hc1); clear hc1 hm1))
  have hA : W1.cell? ⟨w.heap.size, 4, none⟩ = some (.int .i64 a) := cell_later hb1 (by simp)
  have hB : W1.cell? ⟨w.heap.size, 5, none⟩ = some (.int .i64 b) := cell_later hb1 (by simp)
  have hK : W1.cell? ⟨w.heap.size, 1, none⟩ = some (.int .i64 7) := cell_later hb1 (by simp)
  have hB1 : Below w.heap.size w W1 := ((Below.refl _ w).alloc (Nat.le_refl _) _).drew.trans (hb1.mono (by simp))
  have HB1 := Lib.hid hB1
  clear hB1 hb1 hlk
  cases hta : tickOk a
  · rw [hta] at HRA
    go_wp2_with (first | (go_at_call 40; refine (HRA _).mono ?_; rintro e w2 ⟨rfl, rfl⟩) | fail)
    go_ret
    exact ⟨by rw [hta]; rfl, HB1.out⟩
  rw [hta] at HRA
  cases htb : tickOk b
  · rw [htb] at HRB
    go_wp2_with (first | (go_at_call 40; first | (with_reducible refine (HRA _).mono ?_; rintro e w2 ⟨rfl, rfl⟩) | (with_reducible refine (HRB _).mono ?_; rintro e w3 ⟨rfl, rfl⟩)) | fail)
    go_ret
    exact ⟨by rw [hta, htb]; rfl, HB1.out⟩
  rw [htb] at HRB
  have HN := toxic_Numbers.calls 7 1 W1 (by kernel_rfl)
  have hq : ∀ W, (binOp BinOp.eql 52 (.nilFunc) Value.nilFunc).run Tryd.prog W = .ok (.bool true) W := fun _ => rfl
  cases hb0 : (b == 0)
  · go_wp2_with (first | (go_at_call 40; first | (with_reducible refine (HRA _).mono ?_; rintro e w2 ⟨rfl, rfl⟩) | (with_reducible refine (HRB _).mono ?_; rintro e w3 ⟨rfl, rfl⟩)) | (go_at_call 19; refine HN.mono ?_; rintro e w4 ⟨rfl, hb4⟩; have hA' := cell_later hb4 hA; have hB' := cell_later hb4 hB; have hc2' := cell_later hb4 hc2) | fail)
    go_ret
    exact ⟨by rw [hta, htb, hb0]; rfl, HB1.out.trans (hb4.mono HB1.out.size)⟩
  · go_wp2_with (first | (go_at_call 40; first | (with_reducible refine (HRA _).mono ?_; rintro e w2 ⟨rfl, rfl⟩) | (with_reducible refine (HRB _).mono ?_; rintro e w3 ⟨rfl, rfl⟩)) | fail)
    go_ret
    exact ⟨by rw [hta, htb, hb0]; rfl, HB1.out⟩

theorem toxic_numbers.calls (a0_0 : ByteArray) (a0_1 : Int) (a0_2 : Bool) (a0_3 : Int) (a0_4 : Int) (a0_5 : Int) (r : Bool) (w : World) (h : toxic_numbers.f a0_0 a0_1 a0_2 a0_3 a0_4 a0_5 = some r) :
    Calls Tryd.prog 26 #[.agg #[.string a0_0, .int .i64 a0_1, .bool a0_2, .int .i64 a0_3, .int .i64 a0_4, .int .i64 a0_5]] w fun e w' => e = .returned (.bool r) ∧ Below w.heap.size w w' := by
  unfold toxic_numbers.f at h
  split at h
  · rename_i hk
    cases Option.some.inj h
    have : a0_1 = 1 ∨ a0_1 = 2 ∨ a0_1 = 3 ∨ a0_1 = 4 ∨ a0_1 = 5 ∨ a0_1 = 6 ∨ a0_1 = 7 := by omega
    rcases this with rfl | rfl | rfl | rfl | rfl | rfl | rfl
    · exact numbers_1 _ _ _ _ _ _
    · exact numbers_2 _ _ _ _ _ _
    · exact numbers_3 _ _ _ _ _ _
    · exact numbers_4 _ _ _ _ _ _
    · exact numbers_5 _ _ _ _ _ _
    · exact numbers_6 _ _ _ _ _ _
    · exact numbers_7 _ _ _ _ _ _
  · cases h
end Go.Proofs.YtbdklgibiadikaaDoor.Ext
