/- Gathered by a program of this session (shake.py): what the claim's theorem needs. -/
import Derived.Test.YtcnifhkgibopbaaAa1
import Derived.Test.YtcnifhkgibopbaaAa2
import Derived.WalkKit
import Derived.ProofKit
import Derived.OpenShut
import Derived.ShutString
import Derived.ChangeOld
import Derived.Below
import Derived.SizedLaws
import Derived.Test.YtcnifhkgibopbaaRows
set_option linter.unusedVariables false
set_option linter.unusedSimpArgs false
namespace Go.Proofs.YtcnifhkgibopbaaW.PrintLast
end Go.Proofs.YtcnifhkgibopbaaW.PrintLast
namespace Go.Proofs.YtcnifhkgibopbaaW.PrintWords
end Go.Proofs.YtcnifhkgibopbaaW.PrintWords
set_option linter.unusedVariables false
namespace Go.Proofs.Ytcnifhkgibopbaa.Sq
open Go.RowKit Go.Proofs.YtcnifhkgibopbaaW.PrintWords Go.Proofs.YtcnifhkgibopbaaW.PrintLast
theorem qG {p : Prop} (h : p := by (try simp only [List.map_toArray, List.map_cons, List.map_nil]); first | done | rfl | (simp only [List.length_drop, List.length_take]; rfl)) : p := h
section
variable {P : Program} {ops : Array Oper} {Q : Exit → Act → World → Prop} {md : Region.Mode} {S : World → Prop} {ds : List Nat} {T : Bool × List (List Nat × List Nat)}
theorem qP {i : Nat} {N : Option Tmp} {oi : Oper} {v : Value} {fuel : Nat} {l l' : Array Bool} {a a' : Act} {w : World} (hT : rtab md ops = T) (h : wpAnyLast P md ops Q S ds fuel l' a' w)
    (hi : ops[i]? = some oi := by exact rfl) (hN : oi.dst = N := by exact rfl) (hl : l.setIfInBounds i true = l' := by ((conv => lhs; simp only [List.setIfInBounds_toArray, List.set_cons_zero, List.set_cons_succ]); first | done | exact rfl))
    (hc : anyT T l.toList l'.toList i = true := by kernel_rfl) (hy : Yields P ops oi v a := by (refine Or.inl ⟨by rfl, ?_⟩; intro w'; go_simp; with_reducible rfl))
    (ha : a.put N v = a' := by ((conv => lhs; simp only [Act.put, List.setIfInBounds_toArray, List.set_cons_zero, List.set_cons_succ, i64_w, i32_w]); first | done | exact rfl)) (hQ : ∀ c a w, Q (.panic c) (a.put oi.dst v) w → Q (.panic c) a w := by exact fun _ _ _ h => h) : wpAnyLast P md ops Q S ds (fuel + 1) l a w :=
  pure_ (i := i) (N := N) (v := v) (a' := a') l' hi hN (any_of hT hc) hQ hy ha h
theorem qO {i : Nat} {N : Option Tmp} {oi : Oper} {fuel : Nat} {l l' : Array Bool} {a : Act} {w : World} (hT : rtab md ops = T)
    (h : ∀ K : Act → World → Prop, Shut (∀ a' w', S w' → (S w' → wpAnyLast P md ops Q S ds fuel l' a' w') → K a' w') → if Region.wanted oi (yielded ops a.tmps) = true then Oper.wp P oi a w K Q else K (a.put N undef) w)
    (hi : ops[i]? = some oi := by exact rfl) (hN : oi.dst = N := by exact rfl) (hl : l.setIfInBounds i true = l' := by ((conv => lhs; simp only [List.setIfInBounds_toArray, List.set_cons_zero, List.set_cons_succ]); first | done | exact rfl))
    (hc : (readyT T.2 l.toList == [i] && l.toList.set i true == l'.toList) = true := by kernel_rfl) (hd : i ∉ ds := by decide) : wpAnyLast P md ops Q S ds (fuel + 1) l a w :=
  one_ (i := i) (N := N) l' hi hN (one_of hT hc) hd h
theorem qU {i : Nat} {N : Option Tmp} {oi : Oper} {fuel : Nat} {l l' : Array Bool} {a a' : Act} {w : World} (hT : rtab md ops = T) (h : wpAnyLast P md ops Q S ds fuel l' a' w)
    (hi : ops[i]? = some oi := by exact rfl) (hN : oi.dst = N := by exact rfl) (hl : l.setIfInBounds i true = l' := by ((conv => lhs; simp only [List.setIfInBounds_toArray, List.set_cons_zero, List.set_cons_succ]); first | done | exact rfl))
    (hc : anyT T l.toList l'.toList i = true := by kernel_rfl) (hw : Region.wanted oi (yielded ops a.tmps) = false := by rfl)
    (ha : a.put N undef = a' := by ((conv => lhs; simp only [Act.put, List.setIfInBounds_toArray, List.set_cons_zero, List.set_cons_succ, i64_w, i32_w]); first | done | exact rfl)) (hQ : ∀ c a w, Q (.panic c) (a.put oi.dst undef) w → Q (.panic c) a w := by exact fun _ _ _ h => h) : wpAnyLast P md ops Q S ds (fuel + 1) l a w :=
  pure_ (i := i) (N := N) (v := undef) (a' := a') l' hi hN (any_of hT hc) hQ (Or.inr ⟨hw, rfl⟩) ha h
theorem qT {i : Nat} {N : Option Tmp} {oi : Oper} {v : Value} {fuel : Nat} {l l' : Array Bool} {a a' : Act} {w : World} {B : List Nat} (hT : rtab md ops = T) (hW : waitsOk T.2 B = true) (hS : S w) (h : wpAnyLast P md ops Q S ds fuel l' a' w)
    (hi : ops[i]? = some oi := by exact rfl) (hN : oi.dst = N := by exact rfl) (hl : l.setIfInBounds i true = l' := by ((conv => lhs; simp only [List.setIfInBounds_toArray, List.set_cons_zero, List.set_cons_succ]); first | done | exact rfl))
    (hc : takeW T B ds l.toList l'.toList i = true := by kernel_rfl) (hy : YieldsIf P ops S oi v a := by assumption)
    (ha : a.put N v = a' := by ((conv => lhs; simp only [Act.put, List.setIfInBounds_toArray, List.set_cons_zero, List.set_cons_succ, i64_w, i32_w]); first | done | exact rfl)) (hQ : ∀ c a w, Q (.panic c) (a.put oi.dst v) w → Q (.panic c) a w := by exact fun _ _ _ h => h) : wpAnyLast P md ops Q S ds (fuel + 1) l a w :=
  take_ (i := i) (N := N) (v := v) (a' := a') l' hi hN (take_ofW hT hW hc) hQ hy hS ha h
theorem qM {N : Option Tmp} {fuel : Nat} {l : Array Bool} {a a' a0 : Act} {v : Value} {w : World} (h : wpAnyLast P md ops Q S ds fuel l a' w) (e : a = a0.put N v := by exact rfl) (ha : a0.put N v = a' := by ((conv => lhs; simp only [Act.put, List.setIfInBounds_toArray, List.set_cons_zero, List.set_cons_succ, i64_w, i32_w]); first | done | exact rfl)) : wpAnyLast P md ops Q S ds fuel l a w := norm_ (e.trans ha) h
end
end Go.Proofs.Ytcnifhkgibopbaa.Sq
set_option linter.unusedVariables false
set_option linter.unusedSimpArgs false
namespace Go.Proofs.Ytcnifhkgibopbaa
open Go.RowKit Go.MapKept Go.ChangeMaps Go.Proofs.YtcnifhkgibopbaaW.PrintWords Go.Proofs.YtcnifhkgibopbaaW.PrintLast
def allReg.T12 : Bool × List (List Nat × List Nat) := (true, [([], []), ([0], [0]), ([], []), ([2], [2]), ([1, 3], [1, 3]), ([4], [4]), ([5], [5]), ([6, 5], [5, 6]), ([5], [5]), ([8, 5], [5, 8]), ([7, 9, 5], [5, 7, 9]), ([5, 10], [5, 10]), ([11, 5], [11]), ([12], [12]), ([13, 12], [12, 13]), ([12], [12]), ([15, 12], [12, 15]), ([14, 16, 12], [12, 14, 16]), ([12, 17], [12, 17]), ([18, 12], [18]), ([19], [19]), ([20, 19], [19, 20]), ([19], [19]), ([22, 19], [19, 22]), ([21, 23, 19, 19], [19, 21, 23]), ([24, 19], [19, 24]), ([19, 25], [19, 25]), ([26, 24], [26]), ([27], [27]), ([28, 27, 27], [27, 28]), ([29, 29, 27], [27, 29]), ([27], [27]), ([31, 27], [27, 31]), ([30, 32, 30, 27], [27, 30, 32]), ([33, 27], [27, 33]), ([27, 34], [27, 34]), ([35, 33], [35]), ([36], [36]), ([37, 36, 36], [36, 37]), ([36], [36]), ([39, 36], [36, 39]), ([40, 36], [36, 40]), ([38, 41, 36], [36, 38, 41]), ([36, 42], [36, 42]), ([43, 38], [43]), ([44], [44]), ([45, 44, 44], [44, 45]), ([46, 44], [44, 46]), ([44, 47], [44, 47]), ([48, 46], [48]), ([49], [49]), ([49], [49]), ([51, 49], [49, 51]), ([52, 49], [49, 52]), ([53, 49], [49, 53]), ([50, 54, 49], [49, 50, 54]), ([49, 55], [49, 55]), ([56, 49], [56]), ([57], [57]), ([58, 57, 57], [57, 58]), ([59], [59]), ([59], [59]), ([61, 59], [59, 61]), ([62, 59], [59, 62]), ([63, 59], [59, 63]), ([60, 64, 59], [59, 60, 64]), ([59, 65, 57], [57, 59, 65]), ([57, 66], [57, 66])])
def allReg.B12 : List Nat := [0, 1, 0, 4, 15, 31, 63, 127, 63, 319, 1023, 2047, 4095, 8191, 16383, 8191, 40959, 131071, 262143, 524287, 1048575, 2097151, 1048575, 5242879, 16777215, 33554431, 67108863, 134217727, 268435455, 536870911, 1073741823, 268435455, 2415919103, 8589934591, 17179869183, 34359738367, 68719476735, 137438953471, 274877906943, 137438953471, 687194767359, 1786706395135, 4398046511103, 8796093022207, 17592186044415, 35184372088831, 70368744177663, 140737488355327, 281474976710655, 562949953421311, 1125899906842623, 1125899906842623, 3377699720527871, 7881299347898367, 16888498602639359, 36028797018963967, 72057594037927935, 144115188075855871, 288230376151711743, 576460752303423487, 1152921504606846975, 1152921504606846975, 3458764513820540927, 8070450532247928831, 17293822569102704639, 36893488147419103231, 73786976294838206463, 147573952589676412927]
theorem allReg.tab12 : rtab .any (opsOf Try.f5 12) = allReg.T12 := by kernel_rfl
theorem allReg.bits12 : waitsOk allReg.T12.2 allReg.B12 = true := by kernel_rfl
theorem sort_head {d : D2} {r : List D2} (h : Heap (d :: r)) : (sortL (d :: r))[0]? = some d := by
  have hp := sortL_perm (d :: r)
  have hs := sortL_pair (d :: r)
  cases hc : sortL (d :: r) with
  | nil => rw [hc] at hp; exact absurd hp.length_eq (by simp)
  | cons x t =>
    rw [hc] at hp hs
    have hx : x ∈ d :: r := hp.mem_iff.1 (List.mem_cons_self)
    have hd : d ∈ x :: t := hp.mem_iff.2 (List.mem_cons_self)
    obtain ⟨i, hi, hxi⟩ := List.getElem_of_mem hx
    have h1 := heap_root h i hi
    have e0 : fn (d :: r) 0 = d := rfl
    have e1 : fn (d :: r) i = x := by unfold fn; rw [List.getD_eq_getElem?_getD, List.getElem?_eq_getElem hi, hxi]; rfl
    rw [e0, e1] at h1
    rcases List.mem_cons.1 hd with rfl | hd
    · rfl
    · have h2 := (List.pairwise_cons.1 hs).1 d hd
      rw [le_antisymm' h1 h2]; rfl
def AllR (w : World) (pa br : Nat) (len : Nat) (i : Value) (wr : World) : Prop :=
  ∃ (k : Nat) (L : List D2) (last : Int) (S : Nat → Prop) (v : Value), i = .int .i64 k ∧ k ≤ len ∧ RS w pa br L last k S v wr
set_option maxRecDepth 100000 in
set_option maxHeartbeats 4000000 in
theorem all_walk (v : Value) (l : List O3) (w : World) (h : Rd op3 w v l) (hok : ∀ o ∈ l, iok o.2.2) :
    Calls Try.prog 5 #[v] w fun e w' => e = .returned (.bool true) ∧ Below w.heap.size w w' := by
  have hu := Try.underlying33
  have HH := Lib.hid h
  have HOK := Lib.hid hok
  obtain ⟨A, c, rfl, h1, h2, h3⟩ := h
  clear h3 hok
  by_cases hlen : 200 < l.length
  · go_enter Try.func5, Try.ntmps5
    go_wp2_with fail
    refine (new_any _).mono ?_
    rintro e w1 ⟨pa, S1, rfl, ha1, hs1, hb1⟩
    have HB1 := Lib.hid hb1
    clear ha1 hs1 hb1
    go_wp2_with fail
    refine (alive_any _).mono ?_
    rintro e w2 ⟨rfl, hb2⟩
    go_wp2_with fail
    go_ret
    exact ⟨rfl, HB1.out.trans (hb2.mono HB1.out.size)⟩
  · go_enter Try.func5, Try.ntmps5
    go_wp2_with fail
    refine (new_any _).mono ?_
    rintro e w1 ⟨pa, S1, rfl, ha1, hs1, hb1⟩
    have H1 := Lib.hid (And.intro ha1 (And.intro hs1 hb1))
    clear ha1 hs1 hb1
    go_wp2_with fail
    go_loopw [27] (fun i wr => AllR w pa w1.heap.size l.length i wr) (fun i wr => l.length - (intOf i).toNat)
    case atStart =>
      obtain ⟨a1, a2, a3⟩ := H1.out
      have hbx : Below w1.heap.size w1 (w1.alloc (.cells #[.slice none 0 0, .int .i64 0] 47)) := (Below.refl _ _).alloc (Nat.le_refl _) _
      exact ⟨0, [], 0, S1, .slice none 0 0, rfl, Nat.zero_le _, ⟨a1.below hbx, St.nil, a2, a3.alloc a3.size _, (heap_alloc w1 _).1, by rw [show sortL [] = [] by simp [sortL]]; exact rd_nil _, fun g hg => by simp [Value.ownBlock] at hg, fun hs => Nat.lt_irrefl _ (a1.low _ hs), a3.size⟩⟩
    case round =>
      obtain ⟨k, L, last, S, vr, rfl, hk, hrs⟩ := hrel
      have HRS := Lib.hid hrs
      have hbox := hrs.box
      have hlo := hrs.lo
      clear hrs
      generalize w1.heap.size = br at HRS hbox hlo ⊢
      have r0 := cell_of_cells hbox 0
      have r1 := cell_of_cells hbox 1
      have rf := free_of_cells hbox
      simp only [List.getElem?_toArray, List.getElem?_cons_zero, List.getElem?_cons_succ] at r0 r1
      have lbr := World.block_lt_of_cell? _ _ r0
      clear hbox
      by_cases hkl : k < l.length
      · obtain ⟨o, ho⟩ : ∃ o, l[k]? = some o := ⟨_, List.getElem?_eq_getElem hkl⟩
        obtain ⟨b, p, c', hv, c0, c1, c2⟩ := (HH.out.below HRS.out.below).op_at ho
        cases hv
        have hkl' : (k : Int) < (l.length : Int) := by omega
        have hoi := HOK.out o (List.mem_of_getElem? ho)
        have lb := World.block_lt_of_cell? _ _ c0
        have HOI := Lib.hid hoi
        have hll : (sortL L).length ≤ 1000 := by rw [sortL_length]; have := HRS.out.st.len; omega
        have HW1 := Lib.hid ((Below.refl wr.heap.size wr).alloc (Nat.le_refl _) (.cells #[.int .i64 o.1, .int .i64 o.2.1, .int .i64 o.2.2] 38))
        have HDO := Lib.hid (do_any vr (sortL L) last o.1 o.2.1 o.2.2 (wr.alloc (.cells #[.int .i64 o.1, .int .i64 o.2.1, .int .i64 o.2.2] 38)) (HRS.out.rd.below HW1.out) hll ⟨HRS.out.st.last0, by have := HRS.out.st.last1; omega⟩)
        rw [doR_doL HRS.out.st HRS.out.alm.idx] at HDO
        clear ho hoi hll
        go_wp2_with fail
        refine HDO.out.mono ?_
        rintro e w2 ⟨v2, vo2, rfl, hr2, hro2, hb2, ho2, hoo2⟩
        have HST := Lib.hid (HRS.out.step HW1.out hb2 o.1 o.2.1 o.2.2 hr2 ho2)
        have HTL := Lib.hid (fun cA cB w3 => HRS.out.told HW1.out hb2 hro2 hoo2 (v2 := v2) (last2 := (doL L last o.1 o.2.1 o.2.2).last) (cA := cA) (cB := cB) (w3 := w3))
        have HWT := Lib.hid (fun cA cB w3 => HRS.out.want HW1.out hb2 (v2 := v2) (last2 := (doL L last o.1 o.2.1 o.2.2).last) (cA := cA) (cB := cB) (w3 := w3))
        obtain ⟨A2, cc2, rfl, -, -, -⟩ := hr2
        have HRO := Lib.hid hro2
        obtain ⟨A3, cc3, rfl, -, -, -⟩ := HRO.out
        have hop2 := (hb2.block _ (lt_of_heap (heap_alloc wr (.cells #[.int .i64 o.1, .int .i64 o.2.1, .int .i64 o.2.2] 38)).1)).trans (heap_alloc wr _).1
        have hrb2 := ((HRS.out.later HW1.out).later hb2).box
        have x0 := cell_of_cells hop2 0
        have x1 := cell_of_cells hop2 1
        have x2 := cell_of_cells hop2 2
        have y0 := cell_of_cells hrb2 0
        have y1 := cell_of_cells hrb2 1
        have yf := free_of_cells hrb2
        simp only [List.getElem?_toArray, List.getElem?_cons_zero, List.getElem?_cons_succ] at x0 x1 x2 y0 y1
        have lbr2 := lt_of_heap hrb2
        have lop2 := lt_of_heap hop2
        have nb1 : br ≠ w2.heap.size := by omega
        have nb2 : br ≠ w2.heap.size + 1 := by omega
        have no1 : wr.heap.size ≠ w2.heap.size := by omega
        have no2 : wr.heap.size ≠ w2.heap.size + 1 := by omega
        have nb1' : w2.heap.size ≠ br := by omega
        have nb2' : w2.heap.size + 1 ≠ br := by omega
        have no1' : w2.heap.size ≠ wr.heap.size := by omega
        have no2' : w2.heap.size + 1 ≠ wr.heap.size := by omega
        have nbo : br ≠ wr.heap.size := by omega
        have nbo' : wr.heap.size ≠ br := by omega
        clear hop2 hrb2 hb2 ho2 hoo2 hro2 c0 c1 c2 r0 r1 rf lb
        go_wp2_with fail
        obtain ⟨hal, hbd, hnx⟩ := HST.out (.cells #[.slice A2 (sortL (doL L last o.1 o.2.1 o.2.2).L).length cc2, .int .i64 (doL L last o.1 o.2.1 o.2.2).last] 47) (.cells #[.int .i64 (doL L last o.1 o.2.1 o.2.2).N, .bool (doL L last o.1 o.2.1 o.2.2).is, .int .i64 (doL L last o.1 o.2.1 o.2.2).e, .slice A3 (doL L last o.1 o.2.1 o.2.2).out.length cc3] 41)
        refine (does_any pa o.1 o.2.1 o.2.2 L last S k _ hal HRS.out.st (by omega) HOI.out).mono ?_
        rintro e w3 ⟨v3, S2, rfl, hown3, hf3, h3, ht3, ho3⟩
        have HN := Lib.hid (hnx w3 S2 h3 ht3 ho3)
        have HR3 := Lib.hid (HTL.out _ _ w3 ho3)
        have HV3 := Lib.hid (Rd.of_own due_length hown3)
        obtain ⟨A4, cc4, rfl, -, -, -⟩ := HV3.out
        have hwt := HWT.out _ _ w3 ho3
        have z0 := cell_of_cells hwt 0
        have z1 := cell_of_cells hwt 1
        have z2 := cell_of_cells hwt 2
        have z3 := cell_of_cells hwt 3
        simp only [List.getElem?_toArray, List.getElem?_cons_zero, List.getElem?_cons_succ] at z0 z1 z2 z3
        have lz := World.block_lt_of_cell? _ _ z0
        clear h3 ht3 ho3 hnx hal hbd hown3 hf3 hwt x0 x1 x2 y0 y1 yf
        have HBX := Lib.hid ((Below.refl w3.heap.size w3).alloc (Nat.le_refl _) (.cells #[.int .i64 (doL L last o.1 o.2.1 o.2.2).N, .bool (doL L last o.1 o.2.1 o.2.2).is, .int .i64 (doL L last o.1 o.2.1 o.2.2).e, .slice A4 (doL L last o.1 o.2.1 o.2.2).out.length cc4] 41))
        go_wp2_with fail
        have hst2 := HN.out.st
        refine (next_any pa _ _ S2 _ (HN.out.later HBX.out).alm).mono ?_
        rintro e w4 ⟨rfl, hb4⟩
        have HN4 := Lib.hid ((HN.out.later HBX.out).later hb4)
        have HV4 := Lib.hid ((HV3.out.below HBX.out).below hb4)
        have HR4 := Lib.hid ((HR3.out.below HBX.out).below hb4)
        have hbx4 := (hb4.block _ (lt_of_heap (heap_alloc w3 (.cells #[.int .i64 (doL L last o.1 o.2.1 o.2.2).N, .bool (doL L last o.1 o.2.1 o.2.2).is, .int .i64 (doL L last o.1 o.2.1 o.2.2).e, .slice A4 (doL L last o.1 o.2.1 o.2.2).out.length cc4] 41)).1)).trans (heap_alloc w3 _).1
        have y0 := cell_of_cells hbx4 0
        have y1 := cell_of_cells hbx4 1
        have y2 := cell_of_cells hbx4 2
        have y3 := cell_of_cells hbx4 3
        simp only [List.getElem?_toArray, List.getElem?_cons_zero, List.getElem?_cons_succ] at y0 y1 y2 y3
        have z0' := cell_at (HBX.out.trans (hb4.mono HBX.out.size)) z0
        have z1' := cell_at (HBX.out.trans (hb4.mono HBX.out.size)) z1
        have z2' := cell_at (HBX.out.trans (hb4.mono HBX.out.size)) z2
        have z3' := cell_at (HBX.out.trans (hb4.mono HBX.out.size)) z3
        have ly := lt_of_heap hbx4
        have lz' := World.block_lt_of_cell? _ _ z0'
        have hrb4 := HN4.out.box
        have x0 := cell_of_cells hrb4 0
        simp only [List.getElem?_toArray, List.getElem?_cons_zero, List.getElem?_cons_succ] at x0
        have lx := lt_of_heap hrb4
        clear hbx4 hb4 z0 z1 z2 z3 hrb4 HTL HWT HST HDO HR3 HV3 HN HRO HBX lz hst2
        have HST2 := Lib.hid HN4.out.st
        generalize doL L last o.1 o.2.1 o.2.2 = R at *
        obtain ⟨L2, last2, N, is, e, out⟩ := R
        dsimp only at *
        cases L2 with
        | nil =>
          have hW0 : ∃ W, W = w4.alloc (.cells #[.int .i64 0, .int .i64 0] 33) := ⟨_, rfl⟩
          obtain ⟨W, hW⟩ := hW0
          go_wp2_with fail
          simp only [List.isEmpty_nil, Bool.not_true, List.getD_nil]
          rw [← hW]
          have HBW := Lib.hid (hW ▸ (Below.refl w4.heap.size w4).alloc (Nat.le_refl _) (.cells #[.int .i64 0, .int .i64 0] 33) : Below w4.heap.size w4 W)
          have HNW := Lib.hid (HN4.out.later HBW.out)
          have HVW := Lib.hid (HV4.out.below HBW.out)
          have HRW := Lib.hid (HR4.out.below HBW.out)
          replace y0 := cell_at HBW.out y0
          replace y1 := cell_at HBW.out y1
          replace y2 := cell_at HBW.out y2
          replace y3 := cell_at HBW.out y3
          replace z0' := cell_at HBW.out z0'
          replace z1' := cell_at HBW.out z1'
          replace z2' := cell_at HBW.out z2'
          replace z3' := cell_at HBW.out z3'
          replace x0 := cell_at HBW.out x0
          have hlen' : (sortL ([] : List D2)).length = 0 := by rw [sortL_length]; rfl
          clear hW HBW HV4 HR4 HN4 ly lz' lx
          have HLL := Lib.hid (show ([] : List D2).length ≤ 100000 by have := HST2.out.len; omega)
          dsimp only [List.append]
          obtain ⟨n9, hn9⟩ : ∃ n, (sortL ([] : List D2)).length = n := ⟨_, rfl⟩
          rw [hn9] at x0
          have HRD := Lib.hid (show Rd due W (.slice A2 n9 cc2) (sortL ([] : List D2)) by have h9 := HNW.out.rd; rw [hn9] at h9; exact h9)
          have HLN := Lib.hid (show (([] : List D2)).length = n9 by rw [← hn9, sortL_length])
          have q54 : decide ((0 : Int) < (n9 : Int)) = false := by have h9 := HLN.out; simp only [List.length_nil] at h9; exact decide_eq_false (by omega)
          have q54n : decide (0 < n9) = false := by have h9 := HLN.out; simp only [List.length_nil] at h9; exact decide_eq_false (by omega)
          have q0n : n9 = 0 ∨ True := by have h9 := HLN.out; simp only [List.length_nil] at h9; omega
          clear hlen' hn9
          refine start_ (n := 68) (S := fun X => X.cell? ⟨w3.heap.size, 0, none⟩ = some (.int .i64 N) ∧ X.cell? ⟨w3.heap.size, 1, none⟩ = some (.bool is) ∧ X.cell? ⟨w3.heap.size, 2, none⟩ = some (.int .i64 e) ∧ X.cell? ⟨w3.heap.size, 3, none⟩ = some (.slice A4 out.length cc4) ∧ X.cell? ⟨w2.heap.size + 1, 0, none⟩ = some (.int .i64 N) ∧ X.cell? ⟨w2.heap.size + 1, 1, none⟩ = some (.bool is) ∧ X.cell? ⟨w2.heap.size + 1, 2, none⟩ = some (.int .i64 e) ∧ X.cell? ⟨w2.heap.size + 1, 3, none⟩ = some (.slice A3 out.length cc3) ∧ X.cell? ⟨br, 0, none⟩ = some (.slice A2 n9 cc2) ∧ Below W.heap.size W X) (ds := []) #[false, false, false, false, false, false, false, false, false, false, false, false, false, false, false, false, false, false, false, false, false, false, false, false, false, false, false, false, false, false, false, false, false, false, false, false, false, false, false, false, false, false, false, false, false, false, false, false, false, false, false, false, false, false, false, false, false, false, false, false, false, false, false, false, false, false, false, false] (by kernel_rfl) rfl rfl ⟨y0, y1, y2, y3, z0', z1', z2', z3', x0, (Below.refl _ W).drew⟩ (fun hHeld => ?_)
          refine with_tabW allReg.tab12 allReg.bits12 (fun HT_ HW_ => ?_)
          have hq := hHeld.2.2.2.2.2.2.2.2.2
          have HQ := Lib.hid hq
          clear hq
          refine Sq.qP (i := 0) (N := some 46) HT_.out ?_
          refine Sq.qT (i := 1) (N := some 47) HT_.out HW_.out hHeld ?_ (hy := by refine Or.inl ⟨by rfl, ?_⟩; rintro w' ⟨s0, s1, s2, s3, s4, s5, s6, s7, s8, -⟩; go_simp; with_reducible rfl)
          refine Sq.qP (i := 2) (N := some 48) HT_.out ?_
          refine Sq.qT (i := 3) (N := some 49) HT_.out HW_.out hHeld ?_ (hy := by refine Or.inl ⟨by rfl, ?_⟩; rintro w' ⟨s0, s1, s2, s3, s4, s5, s6, s7, s8, -⟩; go_simp; with_reducible rfl)
          refine Sq.qP (i := 4) (N := some 50) HT_.out ?_
          refine Sq.qP (i := 5) (N := some 51) HT_.out ?_
          refine Sq.qP (i := 6) (N := some 52) HT_.out ?_
          refine Sq.qT (i := 7) (N := some 53) HT_.out HW_.out hHeld ?_ (hy := by refine Or.inl ⟨by rfl, ?_⟩; rintro w' ⟨s0, s1, s2, s3, s4, s5, s6, s7, s8, -⟩; go_simp; with_reducible rfl)
          refine Sq.qP (i := 8) (N := some 54) HT_.out ?_
          refine Sq.qT (i := 9) (N := some 55) HT_.out HW_.out hHeld ?_ (hy := by refine Or.inl ⟨by rfl, ?_⟩; rintro w' ⟨s0, s1, s2, s3, s4, s5, s6, s7, s8, -⟩; go_simp; with_reducible rfl)
          refine Sq.qP (i := 10) (N := some 56) HT_.out ?_
          refine Sq.qP (i := 11) (N := some 57) HT_.out ?_
          refine Sq.qP (i := 12) (N := some 58) HT_.out ?_
          refine Sq.qP (i := 13) (N := some 59) HT_.out ?_
          refine Sq.qT (i := 14) (N := some 60) HT_.out HW_.out hHeld ?_ (hy := by refine Or.inl ⟨by rfl, ?_⟩; rintro w' ⟨s0, s1, s2, s3, s4, s5, s6, s7, s8, -⟩; go_simp; with_reducible rfl)
          refine Sq.qP (i := 15) (N := some 61) HT_.out ?_
          refine Sq.qT (i := 16) (N := some 62) HT_.out HW_.out hHeld ?_ (hy := by refine Or.inl ⟨by rfl, ?_⟩; rintro w' ⟨s0, s1, s2, s3, s4, s5, s6, s7, s8, -⟩; go_simp; with_reducible rfl)
          refine Sq.qP (i := 17) (N := some 63) HT_.out ?_
          refine Sq.qP (i := 18) (N := some 64) HT_.out ?_
          refine Sq.qP (i := 19) (N := some 65) HT_.out ?_
          refine Sq.qP (i := 20) (N := some 66) HT_.out ?_
          refine Sq.qT (i := 21) (N := some 67) HT_.out HW_.out hHeld ?_ (hy := by refine Or.inl ⟨by rfl, ?_⟩; rintro w' ⟨s0, s1, s2, s3, s4, s5, s6, s7, s8, -⟩; go_simp; with_reducible rfl)
          refine Sq.qP (i := 22) (N := some 68) HT_.out ?_
          refine Sq.qT (i := 23) (N := some 69) HT_.out HW_.out hHeld ?_ (hy := by refine Or.inl ⟨by rfl, ?_⟩; rintro w' ⟨s0, s1, s2, s3, s4, s5, s6, s7, s8, -⟩; go_simp; with_reducible rfl)
          refine Sq.qO (i := 24) (N := some 70) HT_.out (fun K hK => ?_)
          refine goes_ Try.func18 (by kernel_rfl) rfl #[.slice A4 out.length cc4, .slice A3 out.length cc3] (by rfl) rfl rfl Sq.qG ?_
          with_reducible refine (same_self _ _ _ _ (HVW.out.below HQ.out) (HRW.out.below HQ.out)).mono ?_
          rintro e5 w11 ⟨rfl, hb⟩
          refine ⟨_, rfl, ?_⟩
          have hq := HQ.out.trans (hb.mono HQ.out.size)
          clear HQ hb
          have HQ := Lib.hid hq
          clear hq
          refine hK.out _ _ ⟨cell_at HQ.out y0, cell_at HQ.out y1, cell_at HQ.out y2, cell_at HQ.out y3, cell_at HQ.out z0', cell_at HQ.out z1', cell_at HQ.out z2', cell_at HQ.out z3', cell_at HQ.out x0, HQ.out⟩ (fun hHeld => ?_)
          clear hK K
          refine Sq.qM (N := some 70) ?_
          refine Sq.qP (i := 25) (N := some 71) HT_.out ?_
          refine Sq.qP (i := 26) (N := some 72) HT_.out ?_
          refine Sq.qP (i := 27) (N := some 73) HT_.out ?_
          refine Sq.qP (i := 28) (N := some 74) HT_.out ?_
          refine Sq.qP (i := 31) (N := some 77) HT_.out ?_
          refine Sq.qT (i := 32) (N := some 78) HT_.out HW_.out hHeld ?_ (hy := by refine Or.inl ⟨by rfl, ?_⟩; rintro w' ⟨s0, s1, s2, s3, s4, s5, s6, s7, s8, -⟩; go_simp; with_reducible rfl)
          refine Sq.qO (i := 29) (N := some 75) HT_.out (fun K hK => ?_)
          refine goes_ Try.func20 (by kernel_rfl) rfl #[.pointer (some ⟨pa, 0, none⟩)] (by rfl) rfl rfl Sq.qG ?_
          with_reducible refine (list_any pa _ last2 S2 _ (HNW.out.later HQ.out).alm HLL.out).mono ?_
          rintro e5 w12 ⟨v7, rfl, hr, -, hb⟩
          refine ⟨_, rfl, ?_⟩
          have HVL1 := Lib.hid hr
          clear hr
          have hq := HQ.out.trans (hb.mono HQ.out.size)
          clear HQ hb
          have HQ := Lib.hid hq
          clear hq
          refine hK.out _ _ ⟨cell_at HQ.out y0, cell_at HQ.out y1, cell_at HQ.out y2, cell_at HQ.out y3, cell_at HQ.out z0', cell_at HQ.out z1', cell_at HQ.out z2', cell_at HQ.out z3', cell_at HQ.out x0, HQ.out⟩ (fun hHeld => ?_)
          clear hK K
          refine Sq.qM (N := some 75) ?_
          refine Sq.qO (i := 30) (N := some 76) HT_.out (fun K hK => ?_)
          refine goes_ Try.func19 (by kernel_rfl) rfl #[v7] (by rfl) rfl rfl Sq.qG ?_
          with_reducible refine (rows_any _ _ _ HVL1.out (by rw [sortL_length]; have := HLL.out; omega)).mono ?_
          rintro e5 w13 ⟨v8, rfl, hr, -, hb⟩
          refine ⟨_, rfl, ?_⟩
          have HVR1 := Lib.hid (Rd.of_own due_length hr)
          clear hr
          have hq := HQ.out.trans (hb.mono HQ.out.size)
          clear HQ hb
          have HQ := Lib.hid hq
          clear hq
          refine hK.out _ _ ⟨cell_at HQ.out y0, cell_at HQ.out y1, cell_at HQ.out y2, cell_at HQ.out y3, cell_at HQ.out z0', cell_at HQ.out z1', cell_at HQ.out z2', cell_at HQ.out z3', cell_at HQ.out x0, HQ.out⟩ (fun hHeld => ?_)
          clear hK K
          refine Sq.qM (N := some 76) ?_
          refine Sq.qO (i := 33) (N := some 79) HT_.out (fun K hK => ?_)
          refine goes_ Try.func18 (by kernel_rfl) rfl #[v8, .slice A2 n9 cc2] (by rfl) rfl rfl Sq.qG ?_
          with_reducible refine (same_self _ _ _ _ HVR1.out (HRD.out.below HQ.out)).mono ?_
          rintro e5 w14 ⟨rfl, hb⟩
          refine ⟨_, rfl, ?_⟩
          have hq := HQ.out.trans (hb.mono HQ.out.size)
          clear HQ hb
          have HQ := Lib.hid hq
          clear hq
          refine hK.out _ _ ⟨cell_at HQ.out y0, cell_at HQ.out y1, cell_at HQ.out y2, cell_at HQ.out y3, cell_at HQ.out z0', cell_at HQ.out z1', cell_at HQ.out z2', cell_at HQ.out z3', cell_at HQ.out x0, HQ.out⟩ (fun hHeld => ?_)
          clear hK K
          refine Sq.qM (N := some 79) ?_
          refine Sq.qP (i := 34) (N := some 80) HT_.out ?_
          refine Sq.qP (i := 35) (N := some 81) HT_.out ?_
          refine Sq.qP (i := 36) (N := some 82) HT_.out ?_
          refine Sq.qP (i := 37) (N := some 83) HT_.out ?_
          refine Sq.qP (i := 39) (N := some 85) HT_.out ?_
          refine Sq.qT (i := 40) (N := some 86) HT_.out HW_.out hHeld ?_ (hy := by refine Or.inl ⟨by rfl, ?_⟩; rintro w' ⟨s0, s1, s2, s3, s4, s5, s6, s7, s8, -⟩; go_simp; with_reducible rfl)
          refine Sq.qP (i := 41) (N := some 87) HT_.out ?_
          refine Sq.qO (i := 38) (N := some 84) HT_.out (fun K hK => ?_)
          refine goes_ Try.func14 (by kernel_rfl) rfl #[.pointer (some ⟨pa, 0, none⟩)] (by rfl) rfl rfl Sq.qG ?_
          with_reducible refine (len_any pa _ last2 S2 _ (HNW.out.later HQ.out).alm).mono ?_
          rintro e5 w15 ⟨he5, rfl⟩; rw [HLN.out] at he5; subst he5
          refine ⟨_, rfl, ?_⟩
          refine hK.out _ _ ⟨cell_at HQ.out y0, cell_at HQ.out y1, cell_at HQ.out y2, cell_at HQ.out y3, cell_at HQ.out z0', cell_at HQ.out z1', cell_at HQ.out z2', cell_at HQ.out z3', cell_at HQ.out x0, HQ.out⟩ (fun hHeld => ?_)
          clear hK K
          refine Sq.qM (N := some 84) ?_
          refine Sq.qP (i := 42) (N := some 88) HT_.out ?_
          refine Sq.qP (i := 43) (N := some 89) HT_.out ?_
          refine Sq.qP (i := 44) (N := some 90) HT_.out ?_
          refine Sq.qP (i := 45) (N := some 91) HT_.out ?_
          refine Sq.qO (i := 46) (N := some 92) HT_.out (fun K hK => ?_)
          refine goes_ Try.func21 (by kernel_rfl) rfl #[.pointer (some ⟨pa, 0, none⟩)] (by rfl) rfl rfl Sq.qG ?_
          with_reducible refine (check_any pa _ last2 S2 _ (HNW.out.later HQ.out).alm HST2.out.heap).mono ?_
          rintro e5 w16 ⟨rfl, hb⟩
          refine ⟨_, rfl, ?_⟩
          have hq := HQ.out.trans (hb.mono HQ.out.size)
          clear HQ hb
          have HQ := Lib.hid hq
          clear hq
          refine hK.out _ _ ⟨cell_at HQ.out y0, cell_at HQ.out y1, cell_at HQ.out y2, cell_at HQ.out y3, cell_at HQ.out z0', cell_at HQ.out z1', cell_at HQ.out z2', cell_at HQ.out z3', cell_at HQ.out x0, HQ.out⟩ (fun hHeld => ?_)
          clear hK K
          refine Sq.qM (N := some 92) ?_
          refine Sq.qP (i := 47) (N := some 93) HT_.out ?_
          refine Sq.qP (i := 48) (N := some 94) HT_.out ?_
          refine Sq.qP (i := 49) (N := some 95) HT_.out ?_
          refine Sq.qP (i := 50) (N := some 96) HT_.out ?_
          refine Sq.qP (i := 51) (N := some 97) HT_.out ?_
          refine Sq.qT (i := 52) (N := some 98) HT_.out HW_.out hHeld ?_ (hy := by refine Or.inl ⟨by rfl, ?_⟩; rintro w' ⟨s0, s1, s2, s3, s4, s5, s6, s7, s8, -⟩; go_simp; with_reducible rfl)
          refine Sq.qP (i := 53) (N := some 99) HT_.out ?_
          refine Sq.qP (i := 54) (N := some 100) HT_.out ?_
          refine Sq.qP (i := 55) (N := some 101) HT_.out ?_
          refine Sq.qP (i := 56) (N := some 102) HT_.out ?_
          refine Sq.qP (i := 57) (N := some 103) HT_.out ?_
          refine Sq.qP (i := 58) (N := some 104) HT_.out ?_
          refine Sq.qP (i := 59) (N := some 105) HT_.out ?_
          refine Sq.qU (i := 60) (N := some 106) HT_.out ?_
          refine Sq.qU (i := 61) (N := some 107) HT_.out ?_
          refine Sq.qU (i := 62) (N := some 108) HT_.out ?_
          refine Sq.qU (i := 63) (N := some 109) HT_.out ?_
          refine Sq.qU (i := 64) (N := some 110) HT_.out ?_
          refine Sq.qU (i := 65) (N := some 111) HT_.out ?_
          refine Sq.qP (i := 66) (N := some 112) HT_.out ?_
          refine Sq.qP (i := 67) (N := some 113) HT_.out ?_
          refine done_ (done_of HT_.out (by kernel_rfl)) ?_
          go_wp2_with fail
          go_roundw
          case rel => exact ⟨k + 1, _, last2, S2, _, by go_num, by omega, HNW.out.later HQ.out⟩
          case measure => simp [intOf]; omega
        | cons d r2 =>
          have hW0 : ∃ W, W = w4.alloc (.cells #[.int .i64 d.1, .int .i64 d.2] 33) := ⟨_, rfl⟩
          obtain ⟨W, hW⟩ := hW0
          go_wp2_with fail
          simp only [List.isEmpty_cons, Bool.not_false, List.getD_cons_zero]
          rw [← hW]
          have HBW := Lib.hid (hW ▸ (Below.refl w4.heap.size w4).alloc (Nat.le_refl _) (.cells #[.int .i64 d.1, .int .i64 d.2] 33) : Below w4.heap.size w4 W)
          have HNW := Lib.hid (HN4.out.later HBW.out)
          have HVW := Lib.hid (HV4.out.below HBW.out)
          have HRW := Lib.hid (HR4.out.below HBW.out)
          replace y0 := cell_at HBW.out y0
          replace y1 := cell_at HBW.out y1
          replace y2 := cell_at HBW.out y2
          replace y3 := cell_at HBW.out y3
          replace z0' := cell_at HBW.out z0'
          replace z1' := cell_at HBW.out z1'
          replace z2' := cell_at HBW.out z2'
          replace z3' := cell_at HBW.out z3'
          replace x0 := cell_at HBW.out x0
          have hdb : W.heap[w4.heap.size]? = some (.cells #[.int .i64 d.1, .int .i64 d.2] 33 (0, 0)) := hW ▸ (heap_alloc w4 _).1
          have v0 := cell_of_cells hdb 0
          have v1 := cell_of_cells hdb 1
          simp only [List.getElem?_toArray, List.getElem?_cons_zero, List.getElem?_cons_succ] at v0 v1
          clear hdb
          have hhd := sort_head HST2.out.heap
          obtain ⟨bo, oo, co, hv, e0, e1⟩ := HNW.out.rd.at_ hhd
          obtain ⟨rfl, rfl⟩ : A2 = some ⟨bo, oo, none⟩ ∧ cc2 = co := by simpa using hv
          simp only [Nat.zero_mul, Nat.add_zero] at e0 e1
          have hlen : (0 : Int) < ((sortL (d :: r2)).length : Int) := by rw [sortL_length]; simp only [List.length_cons]; omega
          have hlen' : (sortL (d :: r2)).length = (d :: r2).length := sortL_length _
          clear hv hhd
          clear hW HBW HV4 HR4 HN4 ly lz' lx
          have HLL := Lib.hid (show (d :: r2).length ≤ 100000 by have := HST2.out.len; omega)
          dsimp only [List.append]
          obtain ⟨n9, hn9⟩ : ∃ n, (sortL (d :: r2)).length = n := ⟨_, rfl⟩
          rw [hn9] at x0
          have HRD := Lib.hid (show Rd due W (.slice (some ⟨bo, oo, none⟩) n9 cc2) (sortL (d :: r2)) by have h9 := HNW.out.rd; rw [hn9] at h9; exact h9)
          have HLN := Lib.hid (show ((d :: r2)).length = n9 by rw [← hn9, sortL_length])
          have q54 : decide ((0 : Int) < (n9 : Int)) = true := by have h9 := HLN.out; simp only [List.length_cons] at h9; exact decide_eq_true (by omega)
          have q54n : decide (0 < n9) = true := by have h9 := HLN.out; simp only [List.length_cons] at h9; exact decide_eq_true (by omega)
          have q0n : 0 < n9 := by have h9 := HLN.out; simp only [List.length_cons] at h9; omega
          clear hlen' hlen hn9
          refine start_ (n := 68) (S := fun X => X.cell? ⟨w3.heap.size, 0, none⟩ = some (.int .i64 N) ∧ X.cell? ⟨w3.heap.size, 1, none⟩ = some (.bool is) ∧ X.cell? ⟨w3.heap.size, 2, none⟩ = some (.int .i64 e) ∧ X.cell? ⟨w3.heap.size, 3, none⟩ = some (.slice A4 out.length cc4) ∧ X.cell? ⟨w2.heap.size + 1, 0, none⟩ = some (.int .i64 N) ∧ X.cell? ⟨w2.heap.size + 1, 1, none⟩ = some (.bool is) ∧ X.cell? ⟨w2.heap.size + 1, 2, none⟩ = some (.int .i64 e) ∧ X.cell? ⟨w2.heap.size + 1, 3, none⟩ = some (.slice A3 out.length cc3) ∧ X.cell? ⟨br, 0, none⟩ = some (.slice (some ⟨bo, oo, none⟩) n9 cc2) ∧ X.cell? ⟨w4.heap.size, 0, none⟩ = some (.int .i64 d.1) ∧ X.cell? ⟨w4.heap.size, 1, none⟩ = some (.int .i64 d.2) ∧ X.cell? ⟨bo, oo, none⟩ = some (.int .i64 d.1) ∧ X.cell? ⟨bo, oo + 1, none⟩ = some (.int .i64 d.2) ∧ Below W.heap.size W X) (ds := []) #[false, false, false, false, false, false, false, false, false, false, false, false, false, false, false, false, false, false, false, false, false, false, false, false, false, false, false, false, false, false, false, false, false, false, false, false, false, false, false, false, false, false, false, false, false, false, false, false, false, false, false, false, false, false, false, false, false, false, false, false, false, false, false, false, false, false, false, false] (by kernel_rfl) rfl rfl ⟨y0, y1, y2, y3, z0', z1', z2', z3', x0, v0, v1, e0, e1, (Below.refl _ W).drew⟩ (fun hHeld => ?_)
          refine with_tabW allReg.tab12 allReg.bits12 (fun HT_ HW_ => ?_)
          have hq := hHeld.2.2.2.2.2.2.2.2.2.2.2.2.2
          have HQ := Lib.hid hq
          clear hq
          refine Sq.qP (i := 0) (N := some 46) HT_.out ?_
          refine Sq.qT (i := 1) (N := some 47) HT_.out HW_.out hHeld ?_ (hy := by refine Or.inl ⟨by rfl, ?_⟩; rintro w' ⟨s0, s1, s2, s3, s4, s5, s6, s7, s8, s9, s10, s11, s12, -⟩; go_simp; with_reducible rfl)
          refine Sq.qP (i := 2) (N := some 48) HT_.out ?_
          refine Sq.qT (i := 3) (N := some 49) HT_.out HW_.out hHeld ?_ (hy := by refine Or.inl ⟨by rfl, ?_⟩; rintro w' ⟨s0, s1, s2, s3, s4, s5, s6, s7, s8, s9, s10, s11, s12, -⟩; go_simp; with_reducible rfl)
          refine Sq.qP (i := 4) (N := some 50) HT_.out ?_
          refine Sq.qP (i := 5) (N := some 51) HT_.out ?_
          refine Sq.qP (i := 6) (N := some 52) HT_.out ?_
          refine Sq.qT (i := 7) (N := some 53) HT_.out HW_.out hHeld ?_ (hy := by refine Or.inl ⟨by rfl, ?_⟩; rintro w' ⟨s0, s1, s2, s3, s4, s5, s6, s7, s8, s9, s10, s11, s12, -⟩; go_simp; with_reducible rfl)
          refine Sq.qP (i := 8) (N := some 54) HT_.out ?_
          refine Sq.qT (i := 9) (N := some 55) HT_.out HW_.out hHeld ?_ (hy := by refine Or.inl ⟨by rfl, ?_⟩; rintro w' ⟨s0, s1, s2, s3, s4, s5, s6, s7, s8, s9, s10, s11, s12, -⟩; go_simp; with_reducible rfl)
          refine Sq.qP (i := 10) (N := some 56) HT_.out ?_
          refine Sq.qP (i := 11) (N := some 57) HT_.out ?_
          refine Sq.qP (i := 12) (N := some 58) HT_.out ?_
          refine Sq.qP (i := 13) (N := some 59) HT_.out ?_
          refine Sq.qT (i := 14) (N := some 60) HT_.out HW_.out hHeld ?_ (hy := by refine Or.inl ⟨by rfl, ?_⟩; rintro w' ⟨s0, s1, s2, s3, s4, s5, s6, s7, s8, s9, s10, s11, s12, -⟩; go_simp; with_reducible rfl)
          refine Sq.qP (i := 15) (N := some 61) HT_.out ?_
          refine Sq.qT (i := 16) (N := some 62) HT_.out HW_.out hHeld ?_ (hy := by refine Or.inl ⟨by rfl, ?_⟩; rintro w' ⟨s0, s1, s2, s3, s4, s5, s6, s7, s8, s9, s10, s11, s12, -⟩; go_simp; with_reducible rfl)
          refine Sq.qP (i := 17) (N := some 63) HT_.out ?_
          refine Sq.qP (i := 18) (N := some 64) HT_.out ?_
          refine Sq.qP (i := 19) (N := some 65) HT_.out ?_
          refine Sq.qP (i := 20) (N := some 66) HT_.out ?_
          refine Sq.qT (i := 21) (N := some 67) HT_.out HW_.out hHeld ?_ (hy := by refine Or.inl ⟨by rfl, ?_⟩; rintro w' ⟨s0, s1, s2, s3, s4, s5, s6, s7, s8, s9, s10, s11, s12, -⟩; go_simp; with_reducible rfl)
          refine Sq.qP (i := 22) (N := some 68) HT_.out ?_
          refine Sq.qT (i := 23) (N := some 69) HT_.out HW_.out hHeld ?_ (hy := by refine Or.inl ⟨by rfl, ?_⟩; rintro w' ⟨s0, s1, s2, s3, s4, s5, s6, s7, s8, s9, s10, s11, s12, -⟩; go_simp; with_reducible rfl)
          refine Sq.qO (i := 24) (N := some 70) HT_.out (fun K hK => ?_)
          refine goes_ Try.func18 (by kernel_rfl) rfl #[.slice A4 out.length cc4, .slice A3 out.length cc3] (by rfl) rfl rfl Sq.qG ?_
          with_reducible refine (same_self _ _ _ _ (HVW.out.below HQ.out) (HRW.out.below HQ.out)).mono ?_
          rintro e5 w11 ⟨rfl, hb⟩
          refine ⟨_, rfl, ?_⟩
          have hq := HQ.out.trans (hb.mono HQ.out.size)
          clear HQ hb
          have HQ := Lib.hid hq
          clear hq
          refine hK.out _ _ ⟨cell_at HQ.out y0, cell_at HQ.out y1, cell_at HQ.out y2, cell_at HQ.out y3, cell_at HQ.out z0', cell_at HQ.out z1', cell_at HQ.out z2', cell_at HQ.out z3', cell_at HQ.out x0, cell_at HQ.out v0, cell_at HQ.out v1, cell_at HQ.out e0, cell_at HQ.out e1, HQ.out⟩ (fun hHeld => ?_)
          clear hK K
          refine Sq.qM (N := some 70) ?_
          refine Sq.qP (i := 25) (N := some 71) HT_.out ?_
          refine Sq.qP (i := 26) (N := some 72) HT_.out ?_
          refine Sq.qP (i := 27) (N := some 73) HT_.out ?_
          refine Sq.qP (i := 28) (N := some 74) HT_.out ?_
          refine Sq.qP (i := 31) (N := some 77) HT_.out ?_
          refine Sq.qT (i := 32) (N := some 78) HT_.out HW_.out hHeld ?_ (hy := by refine Or.inl ⟨by rfl, ?_⟩; rintro w' ⟨s0, s1, s2, s3, s4, s5, s6, s7, s8, s9, s10, s11, s12, -⟩; go_simp; with_reducible rfl)
          refine Sq.qO (i := 29) (N := some 75) HT_.out (fun K hK => ?_)
          refine goes_ Try.func20 (by kernel_rfl) rfl #[.pointer (some ⟨pa, 0, none⟩)] (by rfl) rfl rfl Sq.qG ?_
          with_reducible refine (list_any pa _ last2 S2 _ (HNW.out.later HQ.out).alm HLL.out).mono ?_
          rintro e5 w12 ⟨v7, rfl, hr, -, hb⟩
          refine ⟨_, rfl, ?_⟩
          have HVL1 := Lib.hid hr
          clear hr
          have hq := HQ.out.trans (hb.mono HQ.out.size)
          clear HQ hb
          have HQ := Lib.hid hq
          clear hq
          refine hK.out _ _ ⟨cell_at HQ.out y0, cell_at HQ.out y1, cell_at HQ.out y2, cell_at HQ.out y3, cell_at HQ.out z0', cell_at HQ.out z1', cell_at HQ.out z2', cell_at HQ.out z3', cell_at HQ.out x0, cell_at HQ.out v0, cell_at HQ.out v1, cell_at HQ.out e0, cell_at HQ.out e1, HQ.out⟩ (fun hHeld => ?_)
          clear hK K
          refine Sq.qM (N := some 75) ?_
          refine Sq.qO (i := 30) (N := some 76) HT_.out (fun K hK => ?_)
          refine goes_ Try.func19 (by kernel_rfl) rfl #[v7] (by rfl) rfl rfl Sq.qG ?_
          with_reducible refine (rows_any _ _ _ HVL1.out (by rw [sortL_length]; have := HLL.out; omega)).mono ?_
          rintro e5 w13 ⟨v8, rfl, hr, -, hb⟩
          refine ⟨_, rfl, ?_⟩
          have HVR1 := Lib.hid (Rd.of_own due_length hr)
          clear hr
          have hq := HQ.out.trans (hb.mono HQ.out.size)
          clear HQ hb
          have HQ := Lib.hid hq
          clear hq
          refine hK.out _ _ ⟨cell_at HQ.out y0, cell_at HQ.out y1, cell_at HQ.out y2, cell_at HQ.out y3, cell_at HQ.out z0', cell_at HQ.out z1', cell_at HQ.out z2', cell_at HQ.out z3', cell_at HQ.out x0, cell_at HQ.out v0, cell_at HQ.out v1, cell_at HQ.out e0, cell_at HQ.out e1, HQ.out⟩ (fun hHeld => ?_)
          clear hK K
          refine Sq.qM (N := some 76) ?_
          refine Sq.qO (i := 33) (N := some 79) HT_.out (fun K hK => ?_)
          refine goes_ Try.func18 (by kernel_rfl) rfl #[v8, .slice (some ⟨bo, oo, none⟩) n9 cc2] (by rfl) rfl rfl Sq.qG ?_
          with_reducible refine (same_self _ _ _ _ HVR1.out (HRD.out.below HQ.out)).mono ?_
          rintro e5 w14 ⟨rfl, hb⟩
          refine ⟨_, rfl, ?_⟩
          have hq := HQ.out.trans (hb.mono HQ.out.size)
          clear HQ hb
          have HQ := Lib.hid hq
          clear hq
          refine hK.out _ _ ⟨cell_at HQ.out y0, cell_at HQ.out y1, cell_at HQ.out y2, cell_at HQ.out y3, cell_at HQ.out z0', cell_at HQ.out z1', cell_at HQ.out z2', cell_at HQ.out z3', cell_at HQ.out x0, cell_at HQ.out v0, cell_at HQ.out v1, cell_at HQ.out e0, cell_at HQ.out e1, HQ.out⟩ (fun hHeld => ?_)
          clear hK K
          refine Sq.qM (N := some 79) ?_
          refine Sq.qP (i := 34) (N := some 80) HT_.out ?_
          refine Sq.qP (i := 35) (N := some 81) HT_.out ?_
          refine Sq.qP (i := 36) (N := some 82) HT_.out ?_
          refine Sq.qP (i := 37) (N := some 83) HT_.out ?_
          refine Sq.qP (i := 39) (N := some 85) HT_.out ?_
          refine Sq.qT (i := 40) (N := some 86) HT_.out HW_.out hHeld ?_ (hy := by refine Or.inl ⟨by rfl, ?_⟩; rintro w' ⟨s0, s1, s2, s3, s4, s5, s6, s7, s8, s9, s10, s11, s12, -⟩; go_simp; with_reducible rfl)
          refine Sq.qP (i := 41) (N := some 87) HT_.out ?_
          refine Sq.qO (i := 38) (N := some 84) HT_.out (fun K hK => ?_)
          refine goes_ Try.func14 (by kernel_rfl) rfl #[.pointer (some ⟨pa, 0, none⟩)] (by rfl) rfl rfl Sq.qG ?_
          with_reducible refine (len_any pa _ last2 S2 _ (HNW.out.later HQ.out).alm).mono ?_
          rintro e5 w15 ⟨he5, rfl⟩; rw [HLN.out] at he5; subst he5
          refine ⟨_, rfl, ?_⟩
          refine hK.out _ _ ⟨cell_at HQ.out y0, cell_at HQ.out y1, cell_at HQ.out y2, cell_at HQ.out y3, cell_at HQ.out z0', cell_at HQ.out z1', cell_at HQ.out z2', cell_at HQ.out z3', cell_at HQ.out x0, cell_at HQ.out v0, cell_at HQ.out v1, cell_at HQ.out e0, cell_at HQ.out e1, HQ.out⟩ (fun hHeld => ?_)
          clear hK K
          refine Sq.qM (N := some 84) ?_
          refine Sq.qP (i := 42) (N := some 88) HT_.out ?_
          refine Sq.qP (i := 43) (N := some 89) HT_.out ?_
          refine Sq.qP (i := 44) (N := some 90) HT_.out ?_
          refine Sq.qP (i := 45) (N := some 91) HT_.out ?_
          refine Sq.qO (i := 46) (N := some 92) HT_.out (fun K hK => ?_)
          refine goes_ Try.func21 (by kernel_rfl) rfl #[.pointer (some ⟨pa, 0, none⟩)] (by rfl) rfl rfl Sq.qG ?_
          with_reducible refine (check_any pa _ last2 S2 _ (HNW.out.later HQ.out).alm HST2.out.heap).mono ?_
          rintro e5 w16 ⟨rfl, hb⟩
          refine ⟨_, rfl, ?_⟩
          have hq := HQ.out.trans (hb.mono HQ.out.size)
          clear HQ hb
          have HQ := Lib.hid hq
          clear hq
          refine hK.out _ _ ⟨cell_at HQ.out y0, cell_at HQ.out y1, cell_at HQ.out y2, cell_at HQ.out y3, cell_at HQ.out z0', cell_at HQ.out z1', cell_at HQ.out z2', cell_at HQ.out z3', cell_at HQ.out x0, cell_at HQ.out v0, cell_at HQ.out v1, cell_at HQ.out e0, cell_at HQ.out e1, HQ.out⟩ (fun hHeld => ?_)
          clear hK K
          refine Sq.qM (N := some 92) ?_
          refine Sq.qP (i := 47) (N := some 93) HT_.out ?_
          refine Sq.qP (i := 48) (N := some 94) HT_.out ?_
          refine Sq.qP (i := 49) (N := some 95) HT_.out ?_
          refine Sq.qP (i := 50) (N := some 96) HT_.out ?_
          refine Sq.qP (i := 51) (N := some 97) HT_.out ?_
          refine Sq.qT (i := 52) (N := some 98) HT_.out HW_.out hHeld ?_ (hy := by refine Or.inl ⟨by rfl, ?_⟩; rintro w' ⟨s0, s1, s2, s3, s4, s5, s6, s7, s8, s9, s10, s11, s12, -⟩; go_simp; with_reducible rfl)
          refine Sq.qP (i := 53) (N := some 99) HT_.out ?_
          refine Sq.qP (i := 54) (N := some 100) HT_.out ?_
          refine Sq.qP (i := 55) (N := some 101) HT_.out ?_
          refine Sq.qP (i := 56) (N := some 102) HT_.out ?_
          refine Sq.qP (i := 57) (N := some 103) HT_.out ?_
          refine Sq.qP (i := 58) (N := some 104) HT_.out ?_
          refine Sq.qP (i := 59) (N := some 105) HT_.out ?_
          refine Sq.qT (i := 60) (N := some 106) HT_.out HW_.out hHeld ?_ (hy := by refine Or.inl ⟨by rfl, ?_⟩; rintro w' ⟨s0, s1, s2, s3, s4, s5, s6, s7, s8, s9, s10, s11, s12, -⟩; go_simp; with_reducible rfl)
          refine Sq.qP (i := 61) (N := some 107) HT_.out ?_
          refine Sq.qT (i := 62) (N := some 108) HT_.out HW_.out hHeld ?_ (hy := by refine Or.inl ⟨by rfl, ?_⟩; rintro w' ⟨s0, s1, s2, s3, s4, s5, s6, s7, s8, s9, s10, s11, s12, -⟩; go_simp; with_reducible rfl)
          refine Sq.qP (i := 63) (N := some 109) HT_.out ?_
          refine Sq.qT (i := 64) (N := some 110) HT_.out HW_.out hHeld ?_ (hy := by refine Or.inl ⟨by rfl, ?_⟩; rintro w' ⟨s0, s1, s2, s3, s4, s5, s6, s7, s8, s9, s10, s11, s12, -⟩; go_simp; with_reducible rfl)
          refine Sq.qP (i := 65) (N := some 111) HT_.out ?_
          refine Sq.qP (i := 66) (N := some 112) HT_.out ?_
          refine Sq.qP (i := 67) (N := some 113) HT_.out ?_
          refine done_ (done_of HT_.out (by kernel_rfl)) ?_
          go_wp2_with fail
          go_roundw
          case rel => exact ⟨k + 1, _, last2, S2, _, by go_num, by omega, HNW.out.later HQ.out⟩
          case measure => simp [intOf]; omega
      · have q : ¬ (k : Int) < (l.length : Int) := by omega
        have HBW := Lib.hid HRS.out.below
        go_wp2_with fail
        refine (alive_any _).mono ?_
        rintro e w2 ⟨rfl, hb2⟩
        go_wp2_with fail
        go_ret
        exact ⟨rfl, HBW.out.trans (hb2.mono HBW.out.size)⟩
end Go.Proofs.Ytcnifhkgibopbaa
namespace Go.Proofs.Ytcnifhkgibopbaa.alarmAll
open Go.ChangeShapes Go.WideShapes Go.ChangeAt Go.RowKit
open Go.ChangeMaps (open_string shut_string)
set_option linter.unusedVariables false
theorem own : ownKnob Try.prog.godebug = none := by kernel_rfl
theorem laidOut : laidOutB Try.prog = true := by kernel_rfl
set_option maxRecDepth 100000 in
theorem lifted (os : Os) (started : os.Started) (H : Type) (enc : TypeId × Value → H) :
    ReturnsInHanded {} Try.checked os 5 .any (Rows.alarmAllSpec.pre6 enc Try.prog Try.f5 Rows.alarmAllRow.domain false) (Rows.alarmAllSpec.post enc Try.prog Try.f5 false true false false) := by
  refine returnsInHanded_of_change_sized (C := Try.checked) own started (by kernel_rfl) Try.func5
    (ChangeSpec.witness6 (enc := enc) (C := Try.checked) false ⟨#[], #[.slice none 0 0], []⟩ 8 (by kernel_rfl) (by kernel_rfl) (by kernel_rfl) (by kernel_rfl)) ?_
  intro W base args ds gs before hval0 hW hcnd hsz0 _
  have hsz : (DataW.weightsEach Try.prog (Try.f5.params.toList ++ Rows.alarmAllSpec.plain.varTypes Try.prog) (ds ++ gs)).all (· ≤ reachBytes) = true := hsz0
  have hval : ∀ (j : Nat) t v, Try.f5.params[j]? = some t → args[j]? = some v → Value.okWide Try.prog W .any base t v := hval0
  have hW' := hW
  obtain ⟨p, q, hA0, hV, rfl, hfz, hnd⟩ := hW
  have hA : DataW.TrodAll enc Try.prog W 0 (fun _ => true) true Try.f5.params.toList args.toList ds p := hA0
  rw [Try.params5] at hA hval hsz
  obtain ⟨v0, vs0, d0, ds0, p0, q0, hargs, rfl, rfl, h0, r0'⟩ := trodAll_cons hA
  obtain ⟨rfl, rfl, rfl⟩ := trodAll_nil r0'
  obtain rfl : args = #[v0] := by cases args; simp_all
  obtain ⟨rfl, rfl⟩ := trodVars_none hV
  have k0 := h0
  have lt0 : ∀ x ∈ p0, x.block < W.heap.size := by obtain ⟨m, hm⟩ := k0; exact DataW.trod_lt m _ _ _ hm
  obtain ⟨A0, len0, cap0, rfl⟩ := okWide_slice Try.underlying36 (hval 0 36 v0 rfl rfl)
  obtain ⟨⟨v0', l0⟩, hc0, r0, e0⟩ := opn_ops.arg h0
  simp [Value.cells] at hc0
  subst hc0
  clear hA0 hval0 hsz0 hsz
  refine (all_walk (.slice A0 len0 cap0) l0 W r0 (fun o ho => (e0 o ho).2.2)).mono fun e W' ⟨he, bel⟩ => ?_
  subst he
  exact ⟨_, rfl, _, _, _, [], _, [], hW', trodAll_mk1 (shut_bool Try.underlying4 _), (trodAll_cons_mk (Below.trod laidOut (by kernel_rfl) (of_decide_eq_true (by kernel_rfl)) k0 bel lt0) trodAll_mk0), rfl, bel.frame _, fun h => by cases h⟩
theorem over : Rows.alarmAllRow.holds Try.pinned (OpenSpec.ofChange Rows.alarmAllSpec) :=
  OpenClaim.holds_of_wide 5 Try.f5 rfl rfl rfl rfl rfl rfl rfl ⟨rfl, rfl, rfl, rfl, rfl⟩ rfl rfl rfl rfl rfl (by kernel_rfl) Try.func5 (by kernel_rfl)
    (of_decide_eq_true (by kernel_rfl)) (by unfold Func.isWrapper; first | (rw [if_pos (by decide +kernel)]; kernel_rfl) | (rw [if_neg (by decide +kernel)]; exact ⟨rfl, rfl⟩))
    (fun os started H enc _ => lifted os started H enc)
theorem proved : Rows.AlarmAllSaid := over
end Go.Proofs.Ytcnifhkgibopbaa.alarmAll
namespace Go.Proofs.Ytcnifhkgibopbaa
theorem alarmAll_holds : Rows.AlarmAllSaid := alarmAll.proved
end Go.Proofs.Ytcnifhkgibopbaa
