/- Gathered by a program of this session (shake.py): what the claim's theorem needs. -/
import Derived.Test.YtcnifhkgibopbaaAa0
import Derived.Shelf.SlMaps.Clone
import Derived.Ground.SlmcProg
import Derived.Test.YtcnifhkgibopbaaProg
import Derived.Lib.SliceRun
import Derived.Sort.Grow
import Derived.Deep.RegionLaw
import Derived.Laws.AppendOwnNone
import Derived.Shelf.SlSortCmp.NoneTotal
import Derived.Shelf.SlSortCmp.WholeK
import Derived.Ground.SlsfProg
set_option linter.unusedVariables false
set_option linter.unusedSimpArgs false
set_option linter.unusedVariables false
set_option linter.unusedSimpArgs false
namespace Go.Proofs.Ytcnifhkgibopbaa
open Go.RowKit Go.MapKept Go.ChangeMaps
def cmpI (x y : Int) : Int := if x < y then -1 else if y < x then 1 else 0
def cmpD (a b : D2) : Int := if cmpI a.1 b.1 = 0 then cmpI a.2 b.2 else cmpI a.1 b.1
theorem cmpD_lt (a b : D2) : cmpD a b < 0 ↔ lt a b := by
  unfold cmpD cmpI lt
  split <;> split <;> (try split) <;> omega
theorem nan_any (x : Int) (w : World) :
    Calls Try.prog 45 #[.int .i64 x] w fun e w' => e = .returned (.bool false) ∧ w = w' := by
  go_enter Try.func45, Try.ntmps45
  go_wp2_with fail
  go_ret
  exact ⟨by simp, rfl⟩
theorem cmp_any (x y : Int) (w : World) :
    Calls Try.prog 38 #[.int .i64 x, .int .i64 y] w fun e w' => e = .returned (.int .i64 (cmpI x y)) ∧ w = w' := by
  have HN := Lib.hid nan_any
  unfold cmpI
  by_cases h1 : x < y
  · rw [if_pos h1]
    go_enter Try.func38, Try.ntmps38
    go_wp2_with (first | (go_at_call 45; refine (HN.out _ _).mono ?_; rintro e w1 ⟨rfl, rfl⟩) | fail)
    go_ret
    exact ⟨rfl, rfl⟩
  · rw [if_neg h1]
    by_cases h2 : y < x
    · rw [if_pos h2]
      go_enter Try.func38, Try.ntmps38
      go_wp2_with (first | (go_at_call 45; refine (HN.out _ _).mono ?_; rintro e w1 ⟨rfl, rfl⟩) | fail)
      go_ret
      exact ⟨rfl, rfl⟩
    · rw [if_neg h2]
      go_enter Try.func38, Try.ntmps38
      go_wp2_with (first | (go_at_call 45; refine (HN.out _ _).mono ?_; rintro e w1 ⟨rfl, rfl⟩) | fail)
      go_ret
      exact ⟨rfl, rfl⟩
theorem or_two (g : Nat) (a b : Int) (w : World) (h0 : w.cell? ⟨g, 0, none⟩ = some (.int .i64 a)) (h1 : w.cell? ⟨g, 1, none⟩ = some (.int .i64 b)) :
    Calls Try.prog 37 #[.slice (some ⟨g, 0, none⟩) 2 2] w fun e w' => e = .returned (.int .i64 (if a = 0 then b else a)) ∧ w = w' := by
  have H0 := Lib.hid h0
  have H1 := Lib.hid h1
  clear h0 h1
  go_enter Try.func37, Try.ntmps37
  go_wp2_with fail
  go_loopw [8] (fun jv wr => (jv = .int .i64 0 ∨ (jv = .int .i64 1 ∧ a = 0) ∨ (jv = .int .i64 2 ∧ a = 0 ∧ b = 0)) ∧ w = wr) (fun jv _ => 2 - (intOf jv).toNat)
  case atStart => exact ⟨.inl rfl, rfl⟩
  case round =>
    obtain ⟨hj, rfl⟩ := hrel
    rcases hj with rfl | ⟨rfl, ha⟩ | ⟨rfl, ha, hb⟩
    · have h0 := H0.out
      by_cases ha : a = 0
      · subst ha
        go_wp2_with fail
        go_roundw
        case measure => simp [intOf]
        · exact ⟨.inr (.inl ⟨rfl, trivial⟩), trivial⟩
      · have q : (a != 0) = true := by simpa using ha
        have HA := Lib.hid ha
        clear ha
        go_wp2_with fail
        go_ret
        exact ⟨rfl, rfl⟩
    · have h1 := H1.out
      subst ha
      by_cases hb : b = 0
      · subst hb
        go_wp2_with fail
        go_roundw
        case measure => simp [intOf]
        · exact ⟨.inr (.inr ⟨rfl, trivial, trivial⟩), trivial⟩
      · have q : (b != 0) = true := by simpa using hb
        go_wp2_with fail
        go_ret
        exact ⟨rfl, rfl⟩
    · subst ha hb
      go_wp2_with fail
      go_ret
      exact ⟨rfl, rfl⟩
theorem three_cells (w : World) (x y : Value) (t : TypeId) : (w.alloc (.cells #[x, y] t)).cell? ⟨w.heap.size, 0, none⟩ = some x ∧ (w.alloc (.cells #[x, y] t)).cell? ⟨w.heap.size, 1, none⟩ = some y :=
  ⟨cell_of_cells (heap_alloc w _).1 0, cell_of_cells (heap_alloc w _).1 1⟩
def Gr (W W' : World) : Prop := ∃ q os', W' = Go.Sort.grow (W.drewN q) os'
theorem Gr.alloc {W W' : World} (h : Gr W W') (o : Obj) : Gr W (W'.alloc o) := by
  obtain ⟨q, os, rfl⟩ := h
  exact ⟨q, os ++ #[o], by rw [Go.Sort.alloc_eq_grow, Go.Sort.grow_grow]⟩
theorem Gr.drew {W W' : World} (h : Gr W W') : Gr W W'.drew := by
  obtain ⟨q, os, rfl⟩ := h
  exact ⟨q + 1, os, rfl⟩
theorem Gr.refl (W : World) : Gr W W := ⟨0, #[], by simp [Go.Sort.grow, World.drewN]⟩
set_option maxHeartbeats 1000000 in
theorem listcmp_any (x y : D2) (W : World) :
    Calls Try.prog 36 #[.agg #[.int .i64 x.1, .int .i64 x.2], .agg #[.int .i64 y.1, .int .i64 y.2]] W fun e w' => e = .returned (.int .i64 (cmpD x y)) ∧ Gr W w' := by
  have HC := Lib.hid cmp_any
  unfold cmpD
  generalize hc1 : cmpI x.1 y.1 = c1
  generalize hc2 : cmpI x.2 y.2 = c2
  generalize hr : (if c1 = 0 then c2 else c1) = r
  have HO2 : Hid (∀ g w, w.cell? ⟨g, 0, none⟩ = some (.int .i64 c1) → w.cell? ⟨g, 1, none⟩ = some (.int .i64 c2) → Calls Try.prog 37 #[.slice (some ⟨g, 0, none⟩) 2 2] w fun e w' => e = .returned (.int .i64 r) ∧ w = w') := Lib.hid (fun g w h0 h1 => by have := or_two g c1 c2 w h0 h1; rw [hr] at this; exact this)
  have HC1 := Lib.hid hc1
  have HC2 := Lib.hid hc2
  clear hc1 hc2 hr
  go_enter Try.func36, Try.ntmps36
  go_wp2_with fail
  have hxy := heap_two W (Obj.cells #[Value.int IntKind.i64 x.fst, Value.int IntKind.i64 x.snd] 33) (Obj.cells #[Value.int IntKind.i64 y.fst, Value.int IntKind.i64 y.snd] 33)
  have e0 := cell_of_cells hxy.1 0
  have e1 := cell_of_cells hxy.1 1
  have e2 := cell_of_cells hxy.2 0
  have e3 := cell_of_cells hxy.2 1
  have hgr := ((Gr.refl W).alloc (Obj.cells #[Value.int IntKind.i64 x.fst, Value.int IntKind.i64 x.snd] 33)).alloc (Obj.cells #[Value.int IntKind.i64 y.fst, Value.int IntKind.i64 y.snd] 33)
  generalize ((W.alloc (Obj.cells #[Value.int IntKind.i64 x.fst, Value.int IntKind.i64 x.snd] 33)).alloc (Obj.cells #[Value.int IntKind.i64 y.fst, Value.int IntKind.i64 y.snd] 33)) = W2 at e0 e1 e2 e3 hgr ⊢
  clear hxy
  simp only [List.getElem?_toArray, List.getElem?_cons_zero, List.getElem?_cons_succ] at e0 e1 e2 e3
  have n1 : W2.heap.size ≠ W.heap.size := World.new_ne W2 _ e0
  have n2 : W2.heap.size ≠ W.heap.size + 1 := World.new_ne W2 _ e2
  go_region_held3 (fun Wx => Wx.cell? ⟨W.heap.size, 0, none⟩ = some (.int .i64 x.1) ∧ Wx.cell? ⟨W.heap.size, 1, none⟩ = some (.int .i64 x.2) ∧ Wx.cell? ⟨W.heap.size + 1, 0, none⟩ = some (.int .i64 y.1) ∧ Wx.cell? ⟨W.heap.size + 1, 1, none⟩ = some (.int .i64 y.2) ∧ Gr W Wx)
    (first | (refine ⟨?_, ?_, ?_, ?_, ?_⟩ <;> first | assumption | exact Gr.drew (by assumption) | exact Gr.alloc (by assumption) _ | exact Gr.drew (Gr.alloc (by assumption) _) | exact Gr.alloc (Gr.drew (by assumption)) _ | go_keep))
    (first | (go_at_call 38; refine (HC.out _ _ _).mono ?_; rintro e w1 ⟨rfl, rfl⟩; (first | rw [HC1.out] | rw [HC2.out])) | (go_at_call 37; refine (HO2.out _ _ (by first | (rw [World.cell?_drew]; with_reducible exact (three_cells _ _ _ _).1) | with_reducible exact (three_cells _ _ _ _).1) (by first | (rw [World.cell?_drew]; with_reducible exact (three_cells _ _ _ _).2) | with_reducible exact (three_cells _ _ _ _).2)).mono ?_; rintro e w1 ⟨rfl, rfl⟩))
  all_goals (try go_wp2_with fail)
  all_goals go_ret
  all_goals exact ⟨rfl, by first | assumption | exact Gr.drew (by assumption) | exact Gr.alloc (by assumption) _ | exact Gr.drew (Gr.alloc (by assumption) _) | exact Gr.alloc (Gr.drew (by assumption)) _⟩
end Go.Proofs.Ytcnifhkgibopbaa
set_option linter.unusedVariables false
set_option linter.unusedSimpArgs false
namespace Go.Proofs.Ytcnifhkgibopbaa
open Go.RowKit Go.MapKept Go.ChangeMaps
theorem cell_alloc' {W : World} {a : Addr} {v : Value} (h : W.cell? a = some v) (o : Obj) : (W.alloc o).cell? a = some v := by
  rw [World.cell?_alloc_old _ _ _ (Nat.ne_of_lt (World.block_lt_of_cell? _ _ h))]; exact h
theorem due_one (L : List D2) (u : Value) (h : u ∈ flat due L) : u.oneCell' = true := by
  simp only [flat, List.mem_flatMap] at h
  obtain ⟨d, _, h⟩ := h
  simp [due] at h
  rcases h with rfl | rfl <;> rfl
def Cl (w w' : World) (v' : Value) (L : List D2) : Prop :=
  (v' = .slice none 0 0 ∧ L = [] ∧ w = w') ∨ ∃ g cap, v' = .slice (some ⟨g, 0, none⟩) L.length cap ∧ w.heap.size ≤ g ∧ w'.ownsRow 0 33 2 v' L.length (flat due L) ∧ Below w.heap.size w w'
set_option maxRecDepth 100000 in
theorem clone_any (v : Value) (L : List D2) (w : World) (h : Rd due w v L) (hl : L.length ≤ 1000000) :
    Calls Try.prog 34 #[v] w fun e w' => ∃ v', e = .returned v' ∧ Cl w w' v' L := by
  obtain ⟨A, c, rfl, h1, h2, h3⟩ := h
  have HL := Lib.hid hl
  cases A with
  | none =>
    have h0 : L = [] := by
      cases L with
      | nil => rfl
      | cons x r => obtain ⟨_, _, h, _⟩ := h3 (by simp); cases h
    subst h0
    clear h1 h2 h3 hl
    have hnil := fun W => @Lib.run_eql_slice_nil Try.prog W 29 33 none 0 c 0 0 Try.underlying29
    go_enter Try.func34, Try.ntmps34
    go_wp2_with fail
    go_ret
    exact ⟨_, rfl, .inl ⟨rfl, rfl, rfl⟩⟩
  | some ad =>
    have HC := Lib.hid h3
    have hc : ∀ j u, (flat due L)[j]? = some u → w.cell? (ad.add j) = some u := by
      intro j u hu
      have hp : 0 < L.length := by
        cases L with
        | nil => simp [flat] at hu
        | cons x r => simp
      obtain ⟨b, o, e, hc⟩ := h3 hp
      cases e
      have := hc j u hu
      unfold Addr.add
      split
      · rename_i h0; subst h0; exact this
      · exact this
    have HCC := Lib.hid hc
    clear h1 h2 h3 hl hc
    have hnil := fun W => @Lib.run_eql_slice_nil Try.prog W 29 33 (some ad) L.length c 0 0 Try.underlying29
    go_enter Try.func34, Try.ntmps34
    go_wp2_with (first | (at_builtin; refine holdL ?_) | fail)
    refine HoldL.go ?_
    obtain ⟨i0, hi, hzz⟩ := Option.map_eq_some_iff.1 (show (Try.prog.info? 33).map (fun i => (i.zero, i.size, i.bytes)) = some (some (.agg #[.int .i64 0, .int .i64 0]), 2, 16) by kernel_rfl)
    simp only [Prod.mk.injEq] at hzz
    obtain ⟨hz0, hz1, hz2⟩ := hzz
    have hL := HL.out
    refine wpList_append_own_at (w.alloc (.cells #[] 33)) rfl _ _ 29 rfl 0 33 i0 (.agg #[.int .i64 0, .int .i64 0]) 2 16 Try.underlying29 hi hz0 hz1 hz2 rfl (by omega)
      (.slice (some ⟨w.heap.size, 0, none⟩) 0 0) 0 [] rfl (World.ownsRow_lit (base := 0) (e := 33) (size := 2) w #[] 0 (Nat.zero_le _) (by simp [maxLen]) rfl) ad L.length c (flat due L) rfl
      (flat_length due_length L) (fun j u hu => cell_alloc' (HCC.out j u hu) _) (fun u hu => due_one L u hu) (by simp only [maxLen]; omega) (by omega) (Nat.zero_le _) ?_
    intro v1 w2 hown2 hg2 _ hat2
    have hb0 : Below w.heap.size w (w.alloc (.cells #[] 33)) := (Below.refl _ w).alloc (Nat.le_refl _) _
    have hb2 : Below w.heap.size w w2 := hb0.grown hg2 hb0.size (fun k hk => by simp [Value.ownBlock] at hk; omega)
    have hv1 : ∃ g cap, v1 = .slice (some ⟨g, 0, none⟩) L.length cap ∧ w.heap.size ≤ g := by
      have hform := hown2
      obtain ⟨hl, h2⟩ := hform
      rcases h2 with ⟨rfl, h2⟩ | ⟨g', cap', cur, rfl, _⟩
      · rcases hat2 with e | e <;> simp [Value.ownBlock] at e
      · refine ⟨g', cap', by simp, ?_⟩
        rcases hat2 with e | e
        · simp [Value.ownBlock] at e; omega
        · simp [Value.ownBlock] at e; omega
    obtain ⟨g, cap, rfl, hg⟩ := hv1
    have HO := Lib.hid hown2
    have HB := Lib.hid hb2
    have HG := Lib.hid hg
    clear hown2 hg2 hat2 hb0 hb2 hg hi hz0 hz1 hz2
    go_wp2_with fail
    go_ret
    refine ⟨_, rfl, .inr ⟨g, cap, rfl, HG.out, ?_, HB.out⟩⟩
    have := HO.out
    simpa using this
end Go.Proofs.Ytcnifhkgibopbaa
namespace Go.Proofs
open Go.Shelf
def Try.sortDue_ren : Go.Shelf.Ren := ⟨fun | 6 => 35 | 15 => 44 | 14 => 43 | 28 => 55 | 29 => 56 | 20 => 47 | 21 => 48 | 22 => 49 | 23 => 50 | 24 => 51 | 25 => 52 | 26 => 53 | 27 => 54 | 46 => 57 | 47 => 58 | 48 => 59 | 49 => 60 | 50 => 61 | 57 => 62 | n => n, fun | 22 => 29 | 24 => 33 | 25 => 72 | 3 => 3 | 39 => 78 | 0 => 0 | 53 => 88 | 55 => 90 | 4 => 4 | 46 => 82 | 45 => 81 | 50 => 55 | 5 => 5 | 9 => 9 | 66 => 91 | 70 => 95 | 76 => 97 | 77 => 98 | n => n, fun | n => n⟩
theorem Try.sortDue : Go.Proofs.SlLaysF0.n6 Try.prog Try.sortDue_ren := {
  mixed := by kernel_rfl
  f6 := ⟨Try.f35.name, by decide, Try.func35.trans (congrArg some (by kernel_rfl))⟩
  f14 := ⟨Try.f43.name, by decide, Try.func43.trans (congrArg some (by kernel_rfl))⟩
  f15 := Try.func44.trans (congrArg some (by kernel_rfl))
  f20 := ⟨Try.f47.name, by decide, Try.func47.trans (congrArg some (by kernel_rfl))⟩
  f21 := ⟨Try.f48.name, by decide, Try.func48.trans (congrArg some (by kernel_rfl))⟩
  f22 := ⟨Try.f49.name, by decide, Try.func49.trans (congrArg some (by kernel_rfl))⟩
  f23 := ⟨Try.f50.name, by decide, Try.func50.trans (congrArg some (by kernel_rfl))⟩
  f24 := ⟨Try.f51.name, by decide, Try.func51.trans (congrArg some (by kernel_rfl))⟩
  f25 := ⟨Try.f52.name, by decide, Try.func52.trans (congrArg some (by kernel_rfl))⟩
  f26 := ⟨Try.f53.name, by decide, Try.func53.trans (congrArg some (by kernel_rfl))⟩
  f27 := ⟨Try.f54.name, by decide, Try.func54.trans (congrArg some (by kernel_rfl))⟩
  f28 := Try.func55.trans (congrArg some (by kernel_rfl))
  f29 := Try.func56.trans (congrArg some (by kernel_rfl))
  f46 := ⟨Try.f57.name, by decide, Try.func57.trans (congrArg some (by kernel_rfl))⟩
  f47 := Try.func58.trans (congrArg some (by kernel_rfl))
  f48 := Try.func59.trans (congrArg some (by kernel_rfl))
  f49 := ⟨Try.f60.name, by decide, Try.func60.trans (congrArg some (by kernel_rfl))⟩
  f50 := ⟨Try.f61.name, by decide, Try.func61.trans (congrArg some (by kernel_rfl))⟩
  f57 := ⟨Try.f62.name, by decide, Try.func62.trans (congrArg some (by kernel_rfl))⟩
  t0 := Try.underlying0
  a0 := Try.isAgg0
  z0 := Try.sizeOf0
  v0 := Try.zeroValue0
  t3 := Try.underlying3
  a3 := Try.isAgg3
  z3 := Try.sizeOf3
  v3 := Try.zeroValue3
  t4 := Try.underlying4
  a4 := Try.isAgg4
  z4 := Try.sizeOf4
  v4 := Try.zeroValue4
  t5 := Try.underlying5
  a5 := Try.isAgg5
  z5 := Try.sizeOf5
  v5 := Try.zeroValue5
  t9 := Try.underlying9
  a9 := Try.isAgg9
  z9 := Try.sizeOf9
  v9 := Try.zeroValue9
  t22 := Try.underlying29
  a22 := Try.isAgg29
  z22 := Try.sizeOf29
  v22 := Try.zeroValue29
  t25 := Try.underlying72
  a25 := Try.isAgg72
  z25 := Try.sizeOf72
  v25 := Try.zeroValue72
  t39 := Try.underlying78
  a39 := Try.isAgg78
  z39 := Try.sizeOf78
  v39 := Try.zeroValue78
  t45 := Try.underlying81
  a45 := Try.isAgg81
  z45 := Try.sizeOf81
  v45 := Try.zeroValue81
  t46 := Try.underlying82
  a46 := Try.isAgg82
  z46 := Try.sizeOf82
  v46 := Try.zeroValue82
  t50 := Try.underlying55
  a50 := Try.isAgg55
  z50 := Try.sizeOf55
  v50 := Try.zeroValue55
  t53 := Try.underlying88
  a53 := Try.isAgg88
  z53 := Try.sizeOf88
  v53 := Try.zeroValue88
  t55 := Try.underlying90
  a55 := Try.isAgg90
  z55 := Try.sizeOf90
  v55 := Try.zeroValue90
  t66 := Try.underlying91
  a66 := Try.isAgg91
  z66 := Try.sizeOf91
  v66 := Try.zeroValue91
  t70 := Try.underlying95
  a70 := Try.isAgg95
  z70 := Try.sizeOf95
  v70 := Try.zeroValue95
  t76 := Try.underlying97
  a76 := Try.isAgg97
  z76 := Try.sizeOf97
  v76 := Try.zeroValue97
  t77 := Try.underlying98
  a77 := Try.isAgg98
  z77 := Try.sizeOf98
  v77 := Try.zeroValue98 }
end Go.Proofs
set_option linter.unusedVariables false
set_option linter.unusedSimpArgs false
namespace Go.Proofs.Ytcnifhkgibopbaa
open Go.RowKit Go.MapKept Go.ChangeMaps
theorem flatK_flat (L : List D2) : (Go.Sort.flatK due 2 L.toArray).toList = flat due L := by
  apply List.ext_getElem?
  intro t
  by_cases h : t < L.length * 2
  · have hk : t / 2 < L.length := by omega
    have e : t = t / 2 * 2 + t % 2 := by omega
    have h2 : t % 2 < 2 := Nat.mod_lt _ (by omega)
    have hx : L[t / 2]? = some L[t / 2] := List.getElem?_eq_getElem hk
    have hf := flat_at due_length L (t / 2) L[t / 2] (t % 2) hx h2
    rw [← e] at hf
    rw [hf, Array.getElem?_toList, Array.getElem?_eq_getElem (by simpa using h)]
    have hg := Go.Sort.get_flatK due 2 L.toArray t (by simpa using h)
    rw [getElem!_pos _ t (by simpa using h)] at hg
    rw [hg, getElem!_pos _ (t / 2) (by simpa using hk)]
    have hl : t % 2 < (due L[t / 2]).length := by rw [due_length]; exact h2
    simp only [List.getElem_toArray]
    rw [getElem!_pos _ (t % 2) hl, List.getElem?_eq_getElem hl]
  · rw [List.getElem?_eq_none (by simp; omega), List.getElem?_eq_none (by rw [flat_length due_length]; omega)]
def sortL (L : List D2) : List D2 := L.mergeSort fun x y => !(ltOf cmpD) y x
theorem ltOf_cmpD (a b : D2) : ltOf cmpD a b = aheadB a b := by
  unfold ltOf
  rw [Bool.eq_iff_iff, decide_eq_true_eq, ahead_true]
  exact cmpD_lt a b
theorem swo_cmpD : Go.Sort.SWO (ltOf cmpD) where
  irrefl x := by rw [ltOf_cmpD, ahead_false]; exact le_refl' x
  trans x y z h1 h2 := by rw [ltOf_cmpD, ahead_true] at *; unfold lt at *; omega
  ntrans x y z h1 h2 := by rw [ltOf_cmpD, ahead_false] at *; exact le_trans' h2 h1
theorem sortL_perm (L : List D2) : (sortL L).Perm L := List.mergeSort_perm L _
theorem not_ahead (x y : D2) : (!(ltOf cmpD) y x) = true ↔ le x y := by
  rw [ltOf_cmpD, Bool.not_eq_true', ahead_false]
theorem sortL_pair (L : List D2) : (sortL L).Pairwise le := by
  have h := List.pairwise_mergeSort (le := fun x y : D2 => !(ltOf cmpD) y x)
    (fun a b c h1 h2 => by rw [not_ahead] at *; exact le_trans' h1 h2)
    (fun a b => by rw [Bool.or_eq_true, not_ahead, not_ahead]; unfold le; omega) L
  exact h.imp fun h => (not_ahead _ _).1 h
theorem cmp_lays (blk off size : Nat) (w : World) : CmpLays Try.prog 36 #[] due 2 cmpD blk off size w := by
  intro m os dk _ x y
  exact listcmp_any x y _
theorem agg_due (w : World) : (isAgg 33).run Try.prog w = .ok true w := by kernel_rfl
theorem size_due (w : World) : (Go.sizeOf 33).run Try.prog w = .ok 2 w := by kernel_rfl
theorem holds_of_own {w : World} {g n cap base : Nat} {L : List D2} (h : w.ownsRow base 33 2 (.slice (some ⟨g, 0, none⟩) n cap) n (flat due L)) :
    Go.Sort.HoldsK due 2 w g 0 L.toArray ∧ g < w.heap.size ∧ n ≤ cap ∧ cap ≤ 9223372036854775807 := by
  obtain ⟨hl, h2⟩ := h
  rcases h2 with ⟨h2, _⟩ | ⟨g', cap', cur, h3, h4, hh, hn, hm, hs, ht⟩
  · cases h2
  · simp only [Value.slice.injEq, Option.some.injEq, Addr.mk.injEq] at h3
    obtain ⟨⟨rfl, _⟩, _, rfl⟩ := h3
    refine ⟨fun j hj => ⟨?_, free_of_cells hh _⟩, lt_of_heap hh, hn, by unfold maxLen at hm; omega⟩
    have hj2 := hj
    rw [Go.Sort.size_flatK, List.size_toArray] at hj2
    have hfl := flat_length due_length L
    rw [cell_of_cells hh, Nat.zero_add, getElem!_pos _ j hj]
    have h1 : cur[j]? = (flat due L)[j]? := by
      rw [← ht, List.getElem?_take_of_lt (by omega), Array.getElem?_toList]
    rw [h1, ← flatK_flat, Array.getElem?_toList, Array.getElem?_eq_getElem hj]
    rfl
theorem sorted_world (w0 w : World) (g m : Nat) (L R : List D2) (os : Array Obj) (hlen : R.length = L.length) (hH : Go.Sort.HoldsK due 2 w g 0 L.toArray) (hb : Below w0.heap.size w0 w) (hg : w0.heap.size ≤ g) (hgw : g < w.heap.size) (cap : Nat) (hc : R.length ≤ cap) (hcm : cap ≤ 9223372036854775807) :
    Rd due (sortWorldK due 2 w g 0 m R.toArray os) (.slice (some ⟨g, 0, none⟩) R.length cap) R ∧ Below w0.heap.size w0 (sortWorldK due 2 w g 0 m R.toArray os) := by
  have h1 : Go.Sort.HoldsK due 2 (sortWorldK due 2 w g 0 m R.toArray os) g 0 R.toArray := by
    unfold sortWorldK
    refine Go.Sort.holdsK_grow (enc := due) (k := 2) _ _ _ _ _ ?_ ?_
    · unfold Go.Sort.putRowK; rw [Go.Sort.size_putRow]; exact hgw
    · exact Go.Sort.holdsK_putRowK (enc := due) (k := 2) _ _ _ L.toArray _ hH (by simp [hlen])
  refine ⟨⟨_, cap, rfl, hc, by omega, fun hp => ⟨g, 0, rfl, fun j u hu => ?_⟩⟩, ?_⟩
  · have hj : j < (Go.Sort.flatK due 2 R.toArray).size := by
      rw [← flatK_flat, Array.getElem?_toList] at hu
      exact (Array.getElem?_eq_some_iff.1 hu).1
    have := (h1 j hj).1
    rw [this]
    rw [← flatK_flat, Array.getElem?_toList] at hu
    obtain ⟨h2, h3⟩ := Array.getElem?_eq_some_iff.1 hu
    rw [getElem!_pos _ j hj]
    simp [h3]
  · refine hb.trans ⟨rfl, rfl, rfl, ?_, ?_⟩
    · simp [sortWorldK, Go.Sort.grow, Go.Sort.putRowK, Go.Sort.putRow, Go.Sort.mapBlock, Go.Sort.ahead]
    · intro k hk
      have hkw : k < w.heap.size := Nat.lt_of_lt_of_le hk hb.size
      have hkg : ¬ g = k := by omega
      simp only [sortWorldK, Go.Sort.grow, Go.Sort.putRowK, Go.Sort.putRow, Go.Sort.mapBlock, Go.Sort.ahead]
      rw [Array.getElem?_append_left (by simpa using hkw), Array.getElem?_modify, if_neg hkg]
set_option maxRecDepth 100000 in
theorem list_any (pa : Nat) (L : List D2) (last : Int) (S : Nat → Prop) (w : World) (h : Alm w pa L last S) (hl : L.length ≤ 100000) :
    Calls Try.prog 20 #[.pointer (some ⟨pa, 0, none⟩)] w fun e w' => ∃ v, e = .returned v ∧ Rd due w' v (sortL L) ∧ (∀ g, v.ownBlock = some g → w.heap.size ≤ g) ∧ Below w.heap.size w w' := by
  obtain ⟨mb, v, m, hw, hx⟩ := h
  obtain ⟨a0, _, _, _, _, _⟩ := hw.heads
  have hrd : Rd due w v L := Rd.of_own due_length hw.row
  have HCL := Lib.hid (clone_any v L w hrd (by omega))
  have HNONE := Lib.hid (fun p cap w => AnyF.slices_SortFunc_none Try.sortDue p cap (.func (.func 36) #[] #[]) w)
  have HSORT := Lib.hid (fun g cap w hH hg => AnyQ.slices_SortFunc_total Try.sortDue 2 agg_due size_due due due_length (fun x u hu => due_one [x] u (by simpa [flat] using hu)) cmpD swo_cmpD 36 #[] g 0 cap L.toArray w
    (enters_of Try.func36 (by kernel_rfl) rfl) (cmp_lays g 0 _ w) hH hg (by simp only [List.size_toArray]; omega) (fun x y h1 h2 => by rw [ltOf_cmpD, ahead_false] at h1 h2; unfold le at h1 h2; exact Prod.ext (by omega) (by omega)))
  have HX := Lib.hid hx
  have hlow := hw.low
  clear hx hrd hlow
  go_enter Try.func20, Try.ntmps20
  go_wp2_with (first | (go_at_call 34; refine HCL.out.mono ?_; rintro e w1 ⟨v1, rfl, hcl⟩; have HCL1 := Lib.hid hcl; clear hcl) | fail)
  rcases HCL1.out with ⟨rfl, hL, rfl⟩ | ⟨g, cap, rfl, hg, hown, hb⟩
  · subst hL
    go_wp2_with (first | (go_at_call 35; refine (HNONE.out none 0 _).mono ?_; rintro e w2 ⟨rfl, rfl⟩) | fail)
    go_ret
    exact ⟨_, rfl, ⟨none, 0, by simp [sortL], by simp [sortL], by simp [sortL], fun hp => by simp [sortL] at hp⟩, fun g hg => by simp [Value.ownBlock] at hg, Below.refl _ _⟩
  · obtain ⟨hH, hgw, hn, hcm⟩ := holds_of_own hown
    have HS : Hid (Calls Try.prog 35 #[.slice (some ⟨g, 0, none⟩) L.length cap, .func (.func 36) #[] #[]] w1 fun e w' =>
        e = .returned (.tuple #[]) ∧ ∃ n os, w' = sortWorldK due 2 w1 g 0 n (sortL L).toArray os) := Lib.hid (HSORT.out g cap w1 hH hgw)
    have hlen : (sortL L).length = L.length := (sortL_perm L).length_eq
    have HB := Lib.hid (fun m os => sorted_world w w1 g m L (sortL L) os hlen hH hb hg hgw cap (by omega) hcm)
    have HLEN := Lib.hid hlen
    have HG := Lib.hid hg
    clear hH hown hb hgw hlen hg hn hcm
    go_wp2_with (first | (go_at_call 35; refine HS.out.mono ?_; rintro e w2 ⟨rfl, n, os, rfl⟩) | fail)
    go_ret
    refine ⟨_, rfl, ?_, fun k hk => ?_, (HB.out n os).2⟩
    · have := (HB.out n os).1
      rw [HLEN.out] at this
      exact this
    · simp [Value.ownBlock] at hk
      have := HG.out
      omega
end Go.Proofs.Ytcnifhkgibopbaa
set_option linter.unusedVariables false
set_option linter.unusedSimpArgs false
namespace Go.Proofs.Ytcnifhkgibopbaa
open Go.RowKit Go.MapKept Go.ChangeMaps
theorem le_antisymm' {a b : D2} (h : le a b) (k : le b a) : a = b := by
  unfold le at *
  exact Prod.ext (by omega) (by omega)
theorem sorted_eq {L R : List D2} (hp : R.Perm L) (hs : R.Pairwise le) : R = sortL L :=
  List.Perm.eq_of_pairwise (fun a b _ _ h k => le_antisymm' h k) hs (sortL_pair L) (hp.trans (sortL_perm L).symm)
theorem sortL_length (L : List D2) : (sortL L).length = L.length := (sortL_perm L).length_eq
theorem Rd.only {α : Type} {f : α → List Value} {S : Nat → Prop} {w w' : World} {v : Value} {L : List α} (h : Rd f w v L) (ho : Only S w w') (hs : ∀ g, v.ownBlock = some g → ¬ S g) : Rd f w' v L := by
  obtain ⟨A, c, rfl, h1, h2, h3⟩ := h
  refine ⟨A, c, rfl, h1, h2, fun hp => ?_⟩
  obtain ⟨b, o, rfl, hc⟩ := h3 hp
  refine ⟨b, o, rfl, fun j u hu => ?_⟩
  have hcell := hc j u hu
  have hb := World.block_lt_of_cell? _ _ hcell
  rw [World.cell?_of_block (w := w) (ho.block b hb (hs b rfl))]
  exact hcell
theorem Alm.low {w : World} {pa : Nat} {L : List D2} {last : Int} {S : Nat → Prop} (h : Alm w pa L last S) : ∀ k, S k → k < w.heap.size := by
  obtain ⟨mb, v, m, hw, hx⟩ := h
  exact hw.low
end Go.Proofs.Ytcnifhkgibopbaa
set_option linter.unusedVariables false
set_option linter.unusedSimpArgs false
namespace Go.Proofs.Ytcnifhkgibopbaa
open Go.RowKit Go.MapKept Go.ChangeMaps
theorem rright_any (x : Int) (w : World) :
    Calls Try.prog 31 #[.int .i64 x] w fun e w' => e = .returned (.bool (decide (0 ≤ x) && decide (x ≤ 1099511627776))) ∧ w = w' := by
  by_cases h0 : 0 ≤ x
  · go_enter Try.func31, Try.ntmps31
    go_wp2_with fail
    go_ret
    exact ⟨by simp [h0], rfl⟩
  · go_enter Try.func31, Try.ntmps31
    go_wp2_with fail
    go_ret
    refine ⟨?_, rfl⟩
    have e : (decide (0 ≤ x) && decide (x ≤ 1099511627776)) = false := by simp; omega
    rw [e]
    rfl
def findI (L : List D2) (id : Int) : Int := match findL L id with | some k => k | none => -1
set_option maxRecDepth 100000 in
theorem rfind_any (v : Value) (L : List D2) (id : Int) (w : World) (h : Rd due w v L) (hl : L.length ≤ 1000000) :
    Calls Try.prog 30 #[v, .int .i64 id] w fun e w' => e = .returned (.int .i64 (findI L id)) ∧ w = w' := by
  have HH := Lib.hid h
  obtain ⟨A, c, rfl, h1, h2, h3⟩ := h
  clear h3 h2
  go_enter Try.func30, Try.ntmps30
  go_wp2_with fail
  go_loopw [5] (fun jv wr => ∃ j : Nat, jv = .int .i64 j ∧ j ≤ L.length ∧ (∀ i, i < j → ∀ d, L[i]? = some d → d.2 ≠ id) ∧ w = wr) (fun jv _ => L.length - (intOf jv).toNat)
  case atStart => exact ⟨0, rfl, Nat.zero_le _, fun i hi => absurd hi (Nat.not_lt_zero _), rfl⟩
  case round =>
    obtain ⟨j, rfl, hj, hno, rfl⟩ := hrel
    have HNO := Lib.hid hno
    clear hno
    by_cases hjl : j < L.length
    · obtain ⟨d, hd⟩ : ∃ d, L[j]? = some d := ⟨_, List.getElem?_eq_getElem hjl⟩
      obtain ⟨b, o, c', hv, c0, c1⟩ := HH.out.at_ hd
      cases hv
      have hjl' : (j : Int) < (L.length : Int) := by omega
      have hj1 : (j : Int) ≤ 1000000 := by omega
      have HD := Lib.hid hd
      clear hd
      by_cases he : d.2 = id
      · have q : (d.2 == id) = true := by simp [he]
        have HE := Lib.hid he
        clear he
        go_wp2_with fail
        go_ret
        refine ⟨?_, rfl⟩
        have hf : findL L id = some j := by
          unfold findL
          rw [List.findIdx?_eq_some_iff_getElem]
          refine ⟨hjl, ?_, fun i hi => ?_⟩
          · have := HD.out
            rw [List.getElem?_eq_getElem hjl] at this
            have := Option.some.inj this
            rw [this, HE.out]; simp
          · have := HNO.out i hi L[i] (List.getElem?_eq_getElem (by omega))
            simpa using this
        unfold findI
        rw [hf]
        rfl
      · have q : (d.2 == id) = false := by simp [he]
        have HE := Lib.hid he
        clear he
        go_wp2_with fail
        go_roundw
        case rel =>
          refine ⟨j + 1, by go_num, by omega, fun i hi d' hd' => ?_, by first | rfl | trivial⟩
          by_cases hij : i = j
          · subst hij
            rw [HD.out] at hd'
            rw [← Option.some.inj hd']
            exact HE.out
          · exact HNO.out i (by omega) d' hd'
        case measure => simp [intOf]; omega
    · have q : ¬ (j : Int) < (L.length : Int) := by omega
      go_wp2_with fail
      go_ret
      refine ⟨?_, rfl⟩
      have hf : findL L id = none := by
        unfold findL
        rw [List.findIdx?_eq_none_iff]
        intro d hd
        obtain ⟨i, hi⟩ := List.getElem?_of_mem hd
        have := HNO.out i (by have := (List.getElem?_eq_some_iff.1 hi).1; omega) d hi
        simpa using this
      unfold findI
      rw [hf]
      rfl
theorem own_lt {w : World} {g n base : Nat} {e : TypeId} {s : Nat} {v : Value} {xs : List Value} (h : w.ownsRow base e s v n xs) (hg : v.ownBlock = some g) : g < w.heap.size := by
  rcases h.2 with ⟨rfl, _⟩ | ⟨g', cap', cur, rfl, _, hh, _⟩
  · simp [Value.ownBlock] at hg
  · simp [Value.ownBlock] at hg
    subst hg
    exact lt_of_heap hh
def putL : List D2 → D2 → List D2
  | [], d => [d]
  | x :: r, d => if aheadB d x then d :: x :: r else x :: putL r d
structure PO (w : World) (d : D2) (ov : Value) (out : List D2) (W : World) : Prop where
  own : W.ownsRow 0 53 2 ov out.length (flat due out)
  fresh : ∀ g, ov.ownBlock = some g → w.heap.size + 1 ≤ g
  below : Below w.heap.size w W
  box : W.heap[w.heap.size]? = some (.cells #[.int .i64 d.1, .int .i64 d.2] 53 (0, 0))
theorem PO.put {w : World} {d : D2} {ov : Value} {out : List D2} {W : World} (h : PO w d ov out W) (hl : out.length ≤ 100002) (y : D2) {ops : Array Oper} {rest : List Oper} {o : Oper} {a : Act} {Q : Exit → Act → World → Prop} (hgd : o.guard = none) (s x : Operand)
    (ho : o.op = .call { callee := .builtin .append, args := #[s, x], argTypes := #[39, 39] }) (hs : a.eval s = ov) (hx : a.eval x = .slice (some ⟨W.heap.size, 0, none⟩) 1 1)
    (k : ∀ v1 w2, PO w d v1 (out ++ [y]) w2 → wpList Try.prog ops Q rest (a.put o.dst v1) w2) :
    wpList Try.prog ops Q (o :: rest) a (W.alloc (.cells #[.int .i64 y.1, .int .i64 y.2] 53)) := by
  refine append_one hgd s x 39 53 (.agg #[.int .i64 0, .int .i64 0]) 2 16 ho Try.underlying39 Try.infoRDue rfl (by omega) (by omega) ov out.length (flat due out) #[.int .i64 y.1, .int .i64 y.2] W.heap.size hs hx rfl rfl (by simp [Value.oneCell']) h.own (by omega) ?_
  intro v1 w2 hown2 hg2 hat2
  have hsz : w.heap.size < W.heap.size := lt_of_heap h.box
  refine k v1 w2 ⟨?_, ?_, ?_, ?_⟩
  · rw [List.length_append, flat_append]
    exact hown2
  · intro g hg
    rcases hat2 with e | e
    · rw [e] at hg; exact h.fresh g hg
    · rw [e] at hg; injection hg with hg; omega
  · exact h.below.grown hg2 h.below.size fun g hg => by have := h.fresh g hg; omega
  · have hb := hg2.block w.heap.size hsz (fun e => by have := h.fresh _ e.symm; omega)
    rw [hb]
    exact h.box
theorem PO.cells {w : World} {d : D2} {ov : Value} {out : List D2} {W : World} (h : PO w d ov out W) : W.cell? ⟨w.heap.size, 0, none⟩ = some (.int .i64 d.1) ∧ W.cell? ⟨w.heap.size, 1, none⟩ = some (.int .i64 d.2) :=
  ⟨cell_of_cells h.box 0, cell_of_cells h.box 1⟩
theorem PO.drew {w : World} {d : D2} {ov : Value} {out : List D2} {W : World} (h : PO w d ov out W) : PO w d ov out W.drew := ⟨h.own, h.fresh, h.below.drew, h.box⟩
def PutR (w : World) (L : List D2) (d : D2) (ov dv iv : Value) (wr : World) : Prop :=
  ∃ (i : Nat) (out : List D2) (done : Bool), iv = .int .i64 i ∧ dv = .bool done ∧ i ≤ L.length ∧ out.length ≤ i + 1 ∧ (done = false → out.length ≤ i) ∧ PO w d ov out wr ∧ out ++ (if done then L.drop i else putL (L.drop i) d) = putL L d
set_option maxRecDepth 100000 in
set_option maxHeartbeats 1600000 in
theorem put_any (v : Value) (L : List D2) (d : D2) (w : World) (h : Rd due w v L) (hl : L.length ≤ 100000) :
    Calls Try.prog 32 #[v, .agg #[.int .i64 d.1, .int .i64 d.2]] w fun e w' => ∃ v', e = .returned v' ∧ Rd due w' v' (putL L d) ∧ (∀ g, v'.ownBlock = some g → w.heap.size ≤ g ∧ g < w'.heap.size) ∧ Below w.heap.size w w' := by
  have HH := Lib.hid h
  obtain ⟨A, c, rfl, h1, h2, h3⟩ := h
  clear h3 h2
  go_enter Try.func32, Try.ntmps32
  go_wp2_with fail
  go_loopw [5, 6, 7] (fun ov dv iv wr => PutR w L d ov dv iv wr) (fun _ _ iv _ => L.length - (intOf iv).toNat)
  case atStart =>
    refine ⟨0, [], false, rfl, rfl, Nat.zero_le _, by simp, by simp, ⟨World.ownsRow_nil _ _ _ _, fun g hg => by simp [Value.ownBlock] at hg, (Below.refl _ _).alloc (Nat.le_refl _) _, (heap_alloc w _).1⟩, rfl⟩
  case round =>
    obtain ⟨i, out, done, rfl, rfl, hi, hoi, hdn, hpo, hinv⟩ := hrel
    have HDN := Lib.hid hdn
    clear hdn
    have HPO := Lib.hid hpo
    have HINV := Lib.hid hinv
    obtain ⟨b0, b1⟩ := hpo.cells
    have lb0 := World.block_lt_of_cell? _ _ b0
    have hln : out.length ≤ 100001 := by omega
    have HLN := Lib.hid hln
    clear hpo hinv hln
    by_cases hil : i < L.length
    · obtain ⟨x, hx⟩ : ∃ x, L[i]? = some x := ⟨_, List.getElem?_eq_getElem hil⟩
      obtain ⟨b, o, c', hv, c0, c1⟩ := (HH.out.below HPO.out.below).at_ hx
      cases hv
      have hil' : (i : Int) < (L.length : Int) := by omega
      have hi1 : (i : Int) ≤ 100000 := by omega
      have lb := World.block_lt_of_cell? _ _ c0
      have hdrop : L.drop i = x :: L.drop (i + 1) := by
        rw [List.drop_eq_getElem_cons hil]
        rw [List.getElem?_eq_getElem hil] at hx
        rw [Option.some.inj hx]
      have HDROP := Lib.hid hdrop
      have HX := Lib.hid hx
      clear hx hdrop
      cases done with
      | true =>
        go_wp2_with fail
        go_region
        have hpw := HPO.out.drew
        generalize wr.drew = W0 at hpw ⊢
        have HPW := Lib.hid hpw
        clear hpw b0 b1 c0 c1 lb lb0
        obtain ⟨b', o', c'', hv, c0, c1⟩ := (HH.out.below HPW.out.below).at_ HX.out
        cases hv
        have lb := World.block_lt_of_cell? _ _ c0
        go_wp2_with (first | (at_builtin; refine holdL ?_) | fail)
        refine HoldL.go ?_
        refine HPW.out.put (by have := HLN.out; omega) x rfl _ _ rfl rfl rfl ?_
        intro v1 w2 hp2
        have HP2 := Lib.hid hp2
        clear hp2
        go_wp2_with fail
        go_roundw
        case rel =>
          refine ⟨i + 1, out ++ [x], true, by go_num, (by first | rfl | trivial), by omega, by simp; omega, fun h => (by cases h), HP2.out, ?_⟩
          have := HINV.out
          rw [HDROP.out] at this
          simpa using this
        case measure => simp [intOf]; omega
      | false =>
        have hcase : (aheadB d x = true ∧ (d.1 < x.1 ∨ (¬ d.1 < x.1 ∧ d.1 = x.1 ∧ d.2 < x.2))) ∨ (aheadB d x = false ∧ ((¬ d.1 < x.1 ∧ d.1 ≠ x.1) ∨ (¬ d.1 < x.1 ∧ d.1 = x.1 ∧ ¬ d.2 < x.2))) := by
          cases hah : aheadB d x
          · right; rw [ahead_false] at hah; unfold le at hah; refine ⟨rfl, ?_⟩; omega
          · left; rw [ahead_true] at hah; unfold lt at hah; refine ⟨rfl, ?_⟩; omega
        rcases hcase with ⟨hah, hc⟩ | ⟨hah, hc⟩
        · have HAH := Lib.hid hah
          clear hah
          rcases hc with p1 | ⟨p1, p2, p3⟩
          · have p1d : decide (d.1 < x.1) = true := decide_eq_true p1
            clear p1
            go_wp2_with fail
            go_region
            all_goals
              have hpw := HPO.out.drew
              generalize wr.drew = W0 at hpw ⊢
              have HPW := Lib.hid hpw
              clear hpw b0 b1 c0 c1 lb lb0
              obtain ⟨b0, b1⟩ := HPW.out.cells
              have lb0 := World.block_lt_of_cell? _ _ b0
              go_wp2_with (first | (at_builtin; refine holdL ?_) | fail)
              refine HoldL.go ?_
              refine HPW.out.put (by have := HLN.out; omega) d rfl _ _ rfl rfl rfl ?_
              intro v1 w2 hp2
              have HP2 := Lib.hid hp2
              clear hp2 b0 b1 lb0
              obtain ⟨b', o', c'', hv, c0, c1⟩ := (HH.out.below HP2.out.below).at_ HX.out
              cases hv
              have lb := World.block_lt_of_cell? _ _ c0
              go_wp2_with (first | (at_builtin; refine holdL ?_) | fail)
              refine HoldL.go ?_
              refine HP2.out.put (by have := HLN.out; simp; omega) x rfl _ _ rfl rfl rfl ?_
              intro v3 w3 hp3
              have HP3 := Lib.hid hp3
              clear hp3
              go_wp2_with fail
              go_roundw
              case rel =>
                have hoi2 : out.length ≤ i := by
                  first | exact HDN.out rfl | exact HDN.out trivial
                refine ⟨i + 1, out ++ [d] ++ [x], true, by go_num, (by first | rfl | trivial), by omega, by simp; omega, fun h => (by cases h), HP3.out, ?_⟩
                have := HINV.out
                rw [HDROP.out] at this
                simpa [putL, HAH.out] using this
              case measure => simp [intOf]; omega
          · have p1d : decide (d.1 < x.1) = false := decide_eq_false p1
            have p2d : decide (d.1 = x.1) = true := decide_eq_true p2
            have q2 : (d.1 == x.1) = true := by simp [p2]
            have p3d : decide (d.2 < x.2) = true := decide_eq_true p3
            clear p1 p2 p3
            go_wp2_with fail
            go_region
            all_goals
              have hpw := HPO.out.drew
              generalize wr.drew = W0 at hpw ⊢
              have HPW := Lib.hid hpw
              clear hpw b0 b1 c0 c1 lb lb0
              obtain ⟨b0, b1⟩ := HPW.out.cells
              have lb0 := World.block_lt_of_cell? _ _ b0
              go_wp2_with (first | (at_builtin; refine holdL ?_) | fail)
              refine HoldL.go ?_
              refine HPW.out.put (by have := HLN.out; omega) d rfl _ _ rfl rfl rfl ?_
              intro v1 w2 hp2
              have HP2 := Lib.hid hp2
              clear hp2 b0 b1 lb0
              obtain ⟨b', o', c'', hv, c0, c1⟩ := (HH.out.below HP2.out.below).at_ HX.out
              cases hv
              have lb := World.block_lt_of_cell? _ _ c0
              go_wp2_with (first | (at_builtin; refine holdL ?_) | fail)
              refine HoldL.go ?_
              refine HP2.out.put (by have := HLN.out; simp; omega) x rfl _ _ rfl rfl rfl ?_
              intro v3 w3 hp3
              have HP3 := Lib.hid hp3
              clear hp3
              go_wp2_with fail
              go_roundw
              case rel =>
                have hoi2 : out.length ≤ i := by
                  first | exact HDN.out rfl | exact HDN.out trivial
                refine ⟨i + 1, out ++ [d] ++ [x], true, by go_num, (by first | rfl | trivial), by omega, by simp; omega, fun h => (by cases h), HP3.out, ?_⟩
                have := HINV.out
                rw [HDROP.out] at this
                simpa [putL, HAH.out] using this
              case measure => simp [intOf]; omega
        · have HAH := Lib.hid hah
          clear hah
          rcases hc with ⟨p1, p2⟩ | ⟨p1, p2, p3⟩
          · have p1d : decide (d.1 < x.1) = false := decide_eq_false p1
            have p2d : decide (d.1 = x.1) = false := decide_eq_false p2
            have q2 : (d.1 == x.1) = false := by simp [p2]
            clear p1 p2
            go_wp2_with fail
            go_region
            all_goals
              have hpw := HPO.out.drew
              generalize wr.drew = W0 at hpw ⊢
              have HPW := Lib.hid hpw
              clear hpw b0 b1 c0 c1 lb lb0
              obtain ⟨b', o', c'', hv, c0, c1⟩ := (HH.out.below HPW.out.below).at_ HX.out
              cases hv
              have lb := World.block_lt_of_cell? _ _ c0
              go_wp2_with (first | (at_builtin; refine holdL ?_) | fail)
              refine HoldL.go ?_
              refine HPW.out.put (by have := HLN.out; omega) x rfl _ _ rfl rfl rfl ?_
              intro v1 w2 hp2
              have HP2 := Lib.hid hp2
              clear hp2
              go_wp2_with fail
              go_roundw
              case rel =>
                refine ⟨i + 1, out ++ [x], false, by go_num, (by first | rfl | trivial), by omega, by simp; omega, fun _ => (by have : out.length ≤ i := (by first | exact HDN.out rfl | exact HDN.out trivial); simp; omega), HP2.out, ?_⟩
                have := HINV.out
                rw [HDROP.out] at this
                simpa [putL, HAH.out] using this
              case measure => simp [intOf]; omega
          · have p1d : decide (d.1 < x.1) = false := decide_eq_false p1
            have p2d : decide (d.1 = x.1) = true := decide_eq_true p2
            have q2 : (d.1 == x.1) = true := by simp [p2]
            have p3d : decide (d.2 < x.2) = false := decide_eq_false p3
            clear p1 p2 p3
            go_wp2_with fail
            go_region
            all_goals
              have hpw := HPO.out.drew
              generalize wr.drew = W0 at hpw ⊢
              have HPW := Lib.hid hpw
              clear hpw b0 b1 c0 c1 lb lb0
              obtain ⟨b', o', c'', hv, c0, c1⟩ := (HH.out.below HPW.out.below).at_ HX.out
              cases hv
              have lb := World.block_lt_of_cell? _ _ c0
              go_wp2_with (first | (at_builtin; refine holdL ?_) | fail)
              refine HoldL.go ?_
              refine HPW.out.put (by have := HLN.out; omega) x rfl _ _ rfl rfl rfl ?_
              intro v1 w2 hp2
              have HP2 := Lib.hid hp2
              clear hp2
              go_wp2_with fail
              go_roundw
              case rel =>
                refine ⟨i + 1, out ++ [x], false, by go_num, (by first | rfl | trivial), by omega, by simp; omega, fun _ => (by have : out.length ≤ i := (by first | exact HDN.out rfl | exact HDN.out trivial); simp; omega), HP2.out, ?_⟩
                have := HINV.out
                rw [HDROP.out] at this
                simpa [putL, HAH.out] using this
              case measure => simp [intOf]; omega
    · have q : ¬ (i : Int) < (L.length : Int) := by omega
      obtain rfl : i = L.length := by omega
      cases done with
      | true =>
        go_wp2_with fail
        go_ret
        refine ⟨_, rfl, ?_, fun g hg => by have := HPO.out.fresh g hg; have := own_lt HPO.out.own hg; omega, HPO.out.below⟩
        have : out = putL L d := by have := HINV.out; simpa using this
        rw [← this]
        exact Rd.of_own due_length HPO.out.own
      | false =>
        go_wp2_with (first | (at_builtin; refine holdL ?_) | fail)
        refine HoldL.go ?_
        refine HPO.out.put (by have := HLN.out; omega) d rfl _ _ rfl rfl rfl ?_
        intro v1 w2 hp2
        have HP2 := Lib.hid hp2
        clear hp2
        go_wp2_with fail
        go_ret
        refine ⟨_, rfl, ?_, fun g hg => by have := HP2.out.fresh g hg; have := own_lt HP2.out.own hg; omega, HP2.out.below⟩
        have : out ++ [d] = putL L d := by have := HINV.out; simpa [putL] using this
        rw [← this]
        exact Rd.of_own due_length HP2.out.own
end Go.Proofs.Ytcnifhkgibopbaa
set_option linter.unusedVariables false
set_option linter.unusedSimpArgs false
namespace Go.Proofs.Ytcnifhkgibopbaa
open Go.RowKit Go.MapKept Go.ChangeMaps
theorem step_append {ops : Array Oper} {o : Oper} {a : Act} {w : World} {K : Act → World → Prop} {Q : Exit → Act → World → Prop} {E : Prop} (hg : o.guard = none) (s x : Operand)
    (ho : o.op = .call { callee := .builtin .append, args := #[s, x], argTypes := #[39, 39] }) (v : Value) (xs ys : List D2) (ad : Addr) (c : Nat) (hs : a.eval s = v) (hx : a.eval x = .slice (some ad) ys.length c)
    (HO : w.ownsRow 0 53 2 v xs.length (flat due xs)) (hc : ∀ j u, (flat due ys)[j]? = some u → w.cell? (ad.add j) = some u) (hl : xs.length + ys.length ≤ 100000)
    (hK : ∀ v1 w1, w1.ownsRow 0 53 2 v1 (xs ++ ys).length (flat due (xs ++ ys)) → w.grownBy w1 v.ownBlock → (v1.ownBlock = v.ownBlock ∨ v1.ownBlock = some w.heap.size) → K (a.put o.dst v1) w1) :
    if Region.wanted o (yielded ops a.tmps) = true then Oper.wp Try.prog o a w K Q else E := by
  have hw : Region.wanted o (yielded ops a.tmps) = true := by simp [Region.wanted, hg]
  rw [if_pos hw]
  obtain ⟨i0, hi, hzz⟩ := Option.map_eq_some_iff.1 Try.infoRDue
  simp only [Prod.mk.injEq] at hzz
  obtain ⟨hz0, hz1, hz2⟩ := hzz
  obtain ⟨v', w', hr, h2, h3, _, h5⟩ := run_append_own_at (P := Try.prog) w 0 39 o.type 53 i0 (.agg #[.int .i64 0, .int .i64 0]) 2 16 Try.underlying39 hi hz0 hz1 hz2 rfl (by omega) v xs.length (flat due xs) HO ad ys.length c (flat due ys) (flat_length due_length ys) hc (fun u hu => due_one ys u hu) (by simp only [maxLen]; omega) (by omega) (Nat.zero_le _)
  unfold Oper.wp execOp
  simp only [ho, resolve, invoke, builtin, Sem.run_bind, Sem.run_pure, Result.andThen_ok, List.map_toArray, List.map_cons, List.map_nil, hs, hx, hr]
  refine hK _ _ ?_ h3 h5
  rw [List.length_append, flat_append]
  exact h2
theorem own_nil (W : World) : (W.alloc (.cells #[] 53)).ownsRow 0 53 2 (.slice (some ⟨W.heap.size, 0, none⟩) 0 0) ([] : List D2).length (flat due []) :=
  World.ownsRow_lit (base := 0) (e := 53) (size := 2) W #[] 0 (Nat.zero_le _) (by simp [maxLen]) rfl
theorem own_nil_drew (W : World) : (W.alloc (.cells #[] 53)).drew.ownsRow 0 53 2 (.slice (some ⟨W.heap.size, 0, none⟩) 0 0) ([] : List D2).length (flat due []) := own_nil W
theorem cell_later' {w w' : World} {a : Addr} {v : Value} (hb : Below w.heap.size w w') (h : w.cell? a = some v) : w'.cell? a = some v := by
  rw [hb.cell (World.block_lt_of_cell? _ _ h)]; exact h
set_option maxRecDepth 100000 in
set_option maxHeartbeats 800000 in
theorem without_any (v : Value) (L : List D2) (k : Nat) (w : World) (h : Rd due w v L) (hl : L.length ≤ 10000) (hk : k < L.length) :
    Calls Try.prog 33 #[v, .int .i64 k] w fun e w' => ∃ v', e = .returned v' ∧ Rd due w' v' (L.eraseIdx k) ∧ (∀ g, v'.ownBlock = some g → w.heap.size ≤ g ∧ g < w'.heap.size) ∧ Below w.heap.size w w' := by
  obtain ⟨A, c, rfl, h1, h2, h3⟩ := h
  obtain ⟨b, o, rfl, hcell⟩ := h3 (by omega)
  have hc1 : ∀ j u, (flat due (L.take k))[j]? = some u → w.cell? ((⟨b, o, none⟩ : Addr).add j) = some u := by
    intro j u hu
    have e : flat due L = flat due (L.take k) ++ flat due (L.drop k) := by rw [← flat_append, List.take_append_drop]
    have hjl := (List.getElem?_eq_some_iff.1 hu).1
    have := hcell j u (by rw [e, List.getElem?_append_left hjl]; exact hu)
    unfold Addr.add
    split
    · rename_i h0; subst h0; exact this
    · exact this
  have hc2 : ∀ j u, (flat due (L.drop (k + 1)))[j]? = some u → w.cell? ((⟨b, o + (k + 1) * 2, none⟩ : Addr).add j) = some u := by
    intro j u hu
    have e : flat due L = flat due (L.take (k + 1)) ++ flat due (L.drop (k + 1)) := by rw [← flat_append, List.take_append_drop]
    have hlt : (flat due (L.take (k + 1))).length = (k + 1) * 2 := by rw [flat_length due_length, List.length_take]; congr 1; omega
    have := hcell ((k + 1) * 2 + j) u (by rw [e, List.getElem?_append_right (by omega), hlt, Nat.add_sub_cancel_left]; exact hu)
    unfold Addr.add
    split
    · rename_i h0; subst h0; simpa using this
    · rw [Nat.add_assoc]; exact this
  have HC1 := Lib.hid hc1
  have HC2 := Lib.hid hc2
  have hlt : (L.take k).length = k := by rw [List.length_take]; omega
  have hld : (L.drop (k + 1)).length = L.length - (k + 1) := by rw [List.length_drop]
  have HLT := Lib.hid hlt
  have HLD := Lib.hid hld
  have k0 : (0 : Int) ≤ (k : Int) := by omega
  have k1 : (k : Int) ≤ (L.length : Int) := by omega
  have k2 : (k : Int) + 1 ≤ (L.length : Int) := by omega
  have k3 : (0 : Int) ≤ (k : Int) + 1 := by omega
  have k4 : (k : Int) ≤ 10000 := by omega
  have lc : (L.length : Int) ≤ (c : Int) := by omega
  have kc : (k : Int) ≤ (c : Int) := by omega
  have kc1 : (k : Int) + 1 ≤ (c : Int) := by omega
  have ew : IntKind.i64.wrap ((k : Int) + 1) = (k : Int) + 1 := IntWalk.i64_in _ (by omega)
  have e2 : ((k : Int) + 1).toNat = k + 1 := by omega
  have hkn : k ≤ c := by omega
  have hkn2 : k + 1 ≤ c := by omega
  have hkn3 : k + 1 ≤ L.length := by omega
  have HC3 : Hid (c = k + 1 → ∀ (ad : Addr) j u, (flat due (L.drop (k + 1)))[j]? = some u → w.cell? (ad.add j) = some u) := Lib.hid (fun hck ad j u hu => by
    rw [List.drop_eq_nil_of_le (by omega)] at hu
    simp [flat] at hu)
  have hb := World.block_lt_of_cell? _ _ (hcell 0 (.int .i64 (L[0]'(by omega)).1) (flat_due_at (List.getElem?_eq_getElem (show 0 < L.length by omega))).1)
  have HBLK := Lib.hid hb
  have HEND : Hid (∀ v1 w1 v2 w2, (w1.ownsRow 0 53 2 v1 ([] ++ L.take k).length (flat due ([] ++ L.take k)) ∧ (w.alloc (Obj.cells #[] 53)).drew.grownBy w1 (Value.slice (some { block := w.heap.size, off := 0 }) 0 0).ownBlock ∧
        (v1.ownBlock = (Value.slice (some { block := w.heap.size, off := 0 }) 0 0).ownBlock ∨ v1.ownBlock = some (w.alloc (Obj.cells #[] 53)).drew.heap.size)) →
      Below w.heap.size w w1 ∧ (∀ g, v1.ownBlock = some g → w.heap.size ≤ g) ∧ ((w2.ownsRow 0 53 2 v2 (L.take k ++ L.drop (k + 1)).length (flat due (L.take k ++ L.drop (k + 1))) ∧ w1.grownBy w2 v1.ownBlock ∧ (v2.ownBlock = v1.ownBlock ∨ v2.ownBlock = some w1.heap.size)) →
        Rd due w2 v2 (L.eraseIdx k) ∧ (∀ g, v2.ownBlock = some g → w.heap.size ≤ g ∧ g < w2.heap.size) ∧ Below w.heap.size w w2)) := Lib.hid (by
    rintro v1 w1 v2 w2 ⟨o1, g1, a1⟩
    have b0 : Below w.heap.size w (w.alloc (Obj.cells #[] 53)).drew := ((Below.refl _ w).alloc (Nat.le_refl _) _).drew
    have b1 : Below w.heap.size w w1 := b0.grown g1 b0.size (fun k hk => by simp [Value.ownBlock] at hk; omega)
    have f1 : ∀ g, v1.ownBlock = some g → w.heap.size ≤ g := by
      intro g hg
      rcases a1 with e | e
      · rw [e] at hg; simp [Value.ownBlock] at hg; omega
      · rw [e] at hg; simp at hg; omega
    refine ⟨b1, f1, ?_⟩
    rintro ⟨o2, g2, a2⟩
    refine ⟨?_, ?_, b1.grown g2 b1.size (fun k hk => f1 k hk)⟩
    · rw [List.eraseIdx_eq_take_drop_succ]
      exact Rd.of_own due_length o2
    · intro g hg
      refine ⟨?_, own_lt o2 hg⟩
      rcases a2 with e | e
      · rw [e] at hg; exact f1 g hg
      · rw [e] at hg; injection hg with hg; have := b1.size; omega)
  clear h3 hcell hc1 hc2 hlt hld hb
  by_cases hck : c = k + 1
  · have HCK := Lib.hid hck
    clear hck
    go_enter Try.func33, Try.ntmps33
    go_wp2_with fail
    go_region_law (first
      | (refine step_append rfl _ _ rfl (.slice (some ⟨w.heap.size, 0, none⟩) 0 0) [] (L.take k) ⟨b, o, none⟩ _ rfl (by rw [HLT.out]; rfl) (by first | exact own_nil _ | exact own_nil_drew _) (fun j u hu => cell_later' (((Below.refl _ w).alloc (Nat.le_refl _) _).drew) (HC1.out j u hu)) (by rw [HLT.out]; simp; omega) ?_
         intro v1 w1 hown hg hat
         have H1 := Lib.hid (And.intro hown (And.intro hg hat))
         clear hown hg hat)
      | (refine step_append rfl _ _ rfl v1 (L.take k) (L.drop (k + 1)) ⟨b, o, none⟩ _ rfl (by rw [HLD.out]; show Value.slice (if c = k + 1 then _ else _) _ _ = _; rw [if_pos HCK.out]) H1.out.1 (fun j u hu => cell_later' (HEND.out v1 w1 v1 w1 H1.out).1 (HC3.out HCK.out _ j u hu)) (by rw [HLT.out, HLD.out]; omega) ?_
         intro v2 w2 hown hg hat
         have H2 := Lib.hid (And.intro hown (And.intro hg hat))
         clear hown hg hat))
    go_wp2_with fail
    go_ret
    exact ⟨_, rfl, (HEND.out v1 w1 v2 w2 H1.out).2.2 H2.out⟩
  · go_enter Try.func33, Try.ntmps33
    go_wp2_with fail
    go_region_law (first
      | (refine step_append rfl _ _ rfl (.slice (some ⟨w.heap.size, 0, none⟩) 0 0) [] (L.take k) ⟨b, o, none⟩ _ rfl (by rw [HLT.out]; rfl) (by first | exact own_nil _ | exact own_nil_drew _) (fun j u hu => cell_later' (((Below.refl _ w).alloc (Nat.le_refl _) _).drew) (HC1.out j u hu)) (by rw [HLT.out]; simp; omega) ?_
         intro v1 w1 hown hg hat
         have H1 := Lib.hid (And.intro hown (And.intro hg hat))
         clear hown hg hat)
      | (refine step_append rfl _ _ rfl v1 (L.take k) (L.drop (k + 1)) _ _ rfl (by rw [HLD.out]; rfl) H1.out.1 (fun j u hu => cell_later' (HEND.out v1 w1 v1 w1 H1.out).1 (HC2.out j u hu)) (by rw [HLT.out, HLD.out]; omega) ?_
         intro v2 w2 hown hg hat
         have H2 := Lib.hid (And.intro hown (And.intro hg hat))
         clear hown hg hat))
    go_wp2_with fail
    go_ret
    exact ⟨_, rfl, (HEND.out v1 w1 v2 w2 H1.out).2.2 H2.out⟩
end Go.Proofs.Ytcnifhkgibopbaa
set_option linter.unusedVariables false
set_option linter.unusedSimpArgs false
namespace Go.Proofs.Ytcnifhkgibopbaa
open Go.RowKit Go.MapKept Go.ChangeMaps
def doR (R : List D2) (last kind at_ id : Int) : Ans :=
  if kind = 0 then (if (decide (0 ≤ at_) && decide (at_ ≤ 1099511627776)) then ⟨putL R (at_, last + 1), last + 1, last + 1, false, 0, []⟩ else ⟨R, last, 0, false, 1, []⟩)
  else if kind = 1 then (match findL R id with | some k => ⟨R.eraseIdx k, last, 0, true, 0, []⟩ | none => ⟨R, last, 0, false, 0, []⟩)
  else if kind = 2 then (match findL R id with | some k => if (decide (0 ≤ at_) && decide (at_ ≤ 1099511627776)) then ⟨putL (R.eraseIdx k) (at_, id), last, 0, true, 0, []⟩ else ⟨R, last, 0, false, 0, []⟩ | none => ⟨R, last, 0, false, 0, []⟩)
  else if kind = 3 then (match findL R id with | some k => ⟨R, last, (fn R k).1, true, 0, []⟩ | none => ⟨R, last, 0, false, 0, []⟩)
  else if kind = 4 then ⟨R.dropWhile (fun d => decide (d.1 ≤ at_)), last, 0, false, 0, R.takeWhile (fun d => decide (d.1 ≤ at_))⟩
  else ⟨R, last, 0, false, 0, []⟩
def Old (w W : World) (v u : Value) : Prop := ∀ g, u.ownBlock = some g → (w.heap.size ≤ g ∧ g < W.heap.size) ∨ v.ownBlock = some g
theorem Old.same (w W : World) (v : Value) : Old w W v v := fun g hg => .inr hg
theorem Old.nil (w W : World) (v : Value) : Old w W v (.slice none 0 0) := fun g hg => by simp [Value.ownBlock] at hg
def DoPost (w : World) (v : Value) (A : Ans) (e : Ending) (w' : World) : Prop :=
  ∃ v' vo, e = .returned (.tuple #[.agg #[v', .int .i64 A.last], .agg #[.int .i64 A.N, .bool A.is, .int .i64 A.e, vo]]) ∧ Rd due w' v' A.L ∧ Rd due w' vo A.out ∧ Below w.heap.size w w' ∧ Old w w' v v' ∧ Old w w' v vo
structure Bx (w : World) (v : Value) (last kind at_ id : Int) (r0 r1 q0 q1 q2 q3 : Value) (W : World) : Prop where
  a : W.heap[w.heap.size]? = some (.cells #[v, .int .i64 last] 47 (0, 0))
  o : W.heap[w.heap.size + 1]? = some (.cells #[.int .i64 kind, .int .i64 at_, .int .i64 id] 38 (0, 0))
  r : W.heap[w.heap.size + 1 + 1]? = some (.cells #[r0, r1] 47 (0, 0))
  q : W.heap[w.heap.size + 1 + 1 + 1]? = some (.cells #[q0, q1, q2, q3] 41 (0, 0))
  below : Below w.heap.size w W
theorem Bx.start (w : World) (v : Value) (last kind at_ id : Int) : Bx w v last kind at_ id (.slice none 0 0) (.int .i64 0) (.int .i64 0) (.bool false) (.int .i64 0) (.slice none 0 0)
    ((((w.alloc (.cells #[v, .int .i64 last] 47)).alloc (.cells #[.int .i64 kind, .int .i64 at_, .int .i64 id] 38)).alloc (.cells #[.slice none 0 0, .int .i64 0] 47)).alloc (.cells #[.int .i64 0, .bool false, .int .i64 0, .slice none 0 0] 41)) := by
  obtain ⟨h1, h2, h3⟩ := heap_three w (.cells #[v, .int .i64 last] 47) (.cells #[.int .i64 kind, .int .i64 at_, .int .i64 id] 38) (.cells #[.slice none 0 0, .int .i64 0] 47)
  refine ⟨heap_alloc_lt _ _ h1, heap_alloc_lt _ _ h2, heap_alloc_lt _ _ h3, ?_, ?_⟩
  · have := (heap_alloc (((w.alloc (.cells #[v, .int .i64 last] 47)).alloc (.cells #[.int .i64 kind, .int .i64 at_, .int .i64 id] 38)).alloc (.cells #[.slice none 0 0, .int .i64 0] 47)) (.cells #[.int .i64 0, .bool false, .int .i64 0, .slice none 0 0] 41)).1
    simpa using this
  · exact ((((Below.refl _ w).alloc (Nat.le_refl _) _).alloc (by simp) _).alloc (by simp; omega) _).alloc (by simp; omega) _
theorem Bx.later {w : World} {v : Value} {last kind at_ id : Int} {r0 r1 q0 q1 q2 q3 : Value} {W W' : World} (h : Bx w v last kind at_ id r0 r1 q0 q1 q2 q3 W) (hb : Below W.heap.size W W') : Bx w v last kind at_ id r0 r1 q0 q1 q2 q3 W' :=
  ⟨(hb.block _ (lt_of_heap h.a)).trans h.a, (hb.block _ (lt_of_heap h.o)).trans h.o, (hb.block _ (lt_of_heap h.r)).trans h.r, (hb.block _ (lt_of_heap h.q)).trans h.q, h.below.trans (hb.mono h.below.size)⟩
theorem Bx.cells {w : World} {v : Value} {last kind at_ id : Int} {r0 r1 q0 q1 q2 q3 : Value} {W : World} (h : Bx w v last kind at_ id r0 r1 q0 q1 q2 q3 W) :
    W.cell? ⟨w.heap.size, 0, none⟩ = some v ∧ W.cell? ⟨w.heap.size, 1, none⟩ = some (.int .i64 last) ∧ W.cell? ⟨w.heap.size + 1, 0, none⟩ = some (.int .i64 kind) ∧ W.cell? ⟨w.heap.size + 1, 1, none⟩ = some (.int .i64 at_) ∧ W.cell? ⟨w.heap.size + 1, 2, none⟩ = some (.int .i64 id) ∧
    W.cell? ⟨w.heap.size + 1 + 1, 0, none⟩ = some r0 ∧ W.cell? ⟨w.heap.size + 1 + 1, 1, none⟩ = some r1 ∧ W.cell? ⟨w.heap.size + 1 + 1 + 1, 0, none⟩ = some q0 ∧ W.cell? ⟨w.heap.size + 1 + 1 + 1, 1, none⟩ = some q1 ∧ W.cell? ⟨w.heap.size + 1 + 1 + 1, 2, none⟩ = some q2 ∧ W.cell? ⟨w.heap.size + 1 + 1 + 1, 3, none⟩ = some q3 :=
  ⟨cell_of_cells h.a 0, cell_of_cells h.a 1, cell_of_cells h.o 0, cell_of_cells h.o 1, cell_of_cells h.o 2, cell_of_cells h.r 0, cell_of_cells h.r 1, cell_of_cells h.q 0, cell_of_cells h.q 1, cell_of_cells h.q 2, cell_of_cells h.q 3⟩
theorem Bx.free {w : World} {v : Value} {last kind at_ id : Int} {r0 r1 q0 q1 q2 q3 : Value} {W : World} (h : Bx w v last kind at_ id r0 r1 q0 q1 q2 q3 W) :
    (∀ i, W.frozen? ⟨w.heap.size, i, none⟩ = false) ∧ (∀ i, W.frozen? ⟨w.heap.size + 1 + 1, i, none⟩ = false) ∧ ∀ i, W.frozen? ⟨w.heap.size + 1 + 1 + 1, i, none⟩ = false :=
  ⟨free_of_cells h.a, free_of_cells h.r, free_of_cells h.q⟩
theorem Bx.drew {w : World} {v : Value} {last kind at_ id : Int} {r0 r1 q0 q1 q2 q3 : Value} {W : World} (h : Bx w v last kind at_ id r0 r1 q0 q1 q2 q3 W) : Bx w v last kind at_ id r0 r1 q0 q1 q2 q3 W.drew := ⟨h.a, h.o, h.r, h.q, h.below.drew⟩
theorem Bx.setA {w : World} {v : Value} {last kind at_ id : Int} {r0 r1 q0 q1 q2 q3 : Value} {W : World} (h : Bx w v last kind at_ id r0 r1 q0 q1 q2 q3 W) (x : Value) : Bx w x last kind at_ id r0 r1 q0 q1 q2 q3 (W.setCell ⟨w.heap.size, 0, none⟩ x) :=
  ⟨heap_set_eq (i := 0) W x h.a, heap_set_ne _ _ _ h.o (by first | (simp; done) | (simp; omega)), heap_set_ne _ _ _ h.r (by first | (simp; done) | (simp; omega)), heap_set_ne _ _ _ h.q (by first | (simp; done) | (simp; omega)), h.below.setCell (Nat.le_refl _) _⟩
theorem Bx.setL {w : World} {v : Value} {last kind at_ id : Int} {r0 r1 q0 q1 q2 q3 : Value} {W : World} (h : Bx w v last kind at_ id r0 r1 q0 q1 q2 q3 W) (x : Int) : Bx w v x kind at_ id r0 r1 q0 q1 q2 q3 (W.setCell ⟨w.heap.size, 1, none⟩ (.int .i64 x)) :=
  ⟨heap_set_eq (i := 1) W (.int .i64 x) h.a, heap_set_ne _ _ _ h.o (by first | (simp; done) | (simp; omega)), heap_set_ne _ _ _ h.r (by first | (simp; done) | (simp; omega)), heap_set_ne _ _ _ h.q (by first | (simp; done) | (simp; omega)), h.below.setCell (Nat.le_refl _) _⟩
theorem Bx.setR {w : World} {v : Value} {last kind at_ id : Int} {r0 r1 q0 q1 q2 q3 : Value} {W : World} (h : Bx w v last kind at_ id r0 r1 q0 q1 q2 q3 W) (x y : Value) :
    Bx w v last kind at_ id x y q0 q1 q2 q3 ((W.setCell ⟨w.heap.size + 1 + 1, 0, none⟩ x).setCell ⟨w.heap.size + 1 + 1, 1, none⟩ y) :=
  ⟨heap_set_ne _ _ _ (heap_set_ne _ _ _ h.a (by first | (simp; done) | (simp; omega))) (by first | (simp; done) | (simp; omega)), heap_set_ne _ _ _ (heap_set_ne _ _ _ h.o (by first | (simp; done) | (simp; omega))) (by first | (simp; done) | (simp; omega)), by
    have := heap_set_eq (i := 1) _ y (heap_set_eq (i := 0) W x h.r); simpa using this, heap_set_ne _ _ _ (heap_set_ne _ _ _ h.q (by first | (simp; done) | (simp; omega))) (by first | (simp; done) | (simp; omega)), (h.below.setCell (by first | (simp; done) | (simp; omega)) _).setCell (by first | (simp; done) | (simp; omega)) _⟩
theorem Bx.setQ {w : World} {v : Value} {last kind at_ id : Int} {r0 r1 q0 q1 q2 q3 : Value} {W : World} (h : Bx w v last kind at_ id r0 r1 q0 q1 q2 q3 W) (x y z u : Value) :
    Bx w v last kind at_ id r0 r1 x y z u ((((W.setCell ⟨w.heap.size + 1 + 1 + 1, 0, none⟩ x).setCell ⟨w.heap.size + 1 + 1 + 1, 1, none⟩ y).setCell ⟨w.heap.size + 1 + 1 + 1, 2, none⟩ z).setCell ⟨w.heap.size + 1 + 1 + 1, 3, none⟩ u) :=
  ⟨heap_set_ne _ _ _ (heap_set_ne _ _ _ (heap_set_ne _ _ _ (heap_set_ne _ _ _ h.a (by first | (simp; done) | (simp; omega))) (by first | (simp; done) | (simp; omega))) (by first | (simp; done) | (simp; omega))) (by first | (simp; done) | (simp; omega)),
   heap_set_ne _ _ _ (heap_set_ne _ _ _ (heap_set_ne _ _ _ (heap_set_ne _ _ _ h.o (by first | (simp; done) | (simp; omega))) (by first | (simp; done) | (simp; omega))) (by first | (simp; done) | (simp; omega))) (by first | (simp; done) | (simp; omega)),
   heap_set_ne _ _ _ (heap_set_ne _ _ _ (heap_set_ne _ _ _ (heap_set_ne _ _ _ h.r (by first | (simp; done) | (simp; omega))) (by first | (simp; done) | (simp; omega))) (by first | (simp; done) | (simp; omega))) (by first | (simp; done) | (simp; omega)), by
    have := heap_set_eq (i := 3) _ u (heap_set_eq (i := 2) _ z (heap_set_eq (i := 1) _ y (heap_set_eq (i := 0) W x h.q))); simpa using this,
   (((h.below.setCell (by first | (simp; done) | (simp; omega)) _).setCell (by first | (simp; done) | (simp; omega)) _).setCell (by first | (simp; done) | (simp; omega)) _).setCell (by first | (simp; done) | (simp; omega)) _⟩
theorem results_two {P : Program} {fn : Func} {tmps : Array Value} {W : World} {p p2 : Tmp} {ty ty2 : TypeId} {g g2 : Nat} {cs cs2 : Array Value} {d d2 : TypeDesc} (h : fn.results = #[.cell p ty, .cell p2 ty2])
    (hp : tmps.getD p undef = .pointer (some ⟨g, 0, none⟩)) (hp2 : tmps.getD p2 undef = .pointer (some ⟨g2, 0, none⟩))
    (hg : W.heap[g]? = some (.cells cs ty (0, 0))) (hg2 : W.heap[g2]? = some (.cells cs2 ty2 (0, 0))) (hu : P.underlying ty = some d) (hd : (match d with | .struct _ | .array _ _ => true | _ => false) = true) (hi : (P.info? ty).map (·.size) = some cs.size)
    (hu2 : P.underlying ty2 = some d2) (hd2 : (match d2 with | .struct _ | .array _ _ => true | _ => false) = true) (hi2 : (P.info? ty2).map (·.size) = some cs2.size) : (results fn tmps).run P W = .ok (.tuple #[.agg cs, .agg cs2]) W := by
  unfold results
  rw [h, show (#[ResultVar.cell p ty, ResultVar.cell p2 ty2]) = [ResultVar.cell p ty, ResultVar.cell p2 ty2].toArray from rfl, List.mapM_toArray]
  have hp' : tmps[p]?.getD undef = .pointer (some ⟨g, 0, none⟩) := by simpa using hp
  have hp2' : tmps[p2]?.getD undef = .pointer (some ⟨g2, 0, none⟩) := by simpa using hp2
  simp [List.mapM_cons, hp', hp2', asAddr, run_loadVar_row W g ty ty cs (0, 0) d hg hu hd hi, run_loadVar_row W g2 ty2 ty2 cs2 (0, 0) d2 hg2 hu2 hd2 hi2]
theorem Bx.done {w : World} {v : Value} {last kind at_ id : Int} {v' vo : Value} {A : Ans} {W : World} (h : Bx w v last kind at_ id v' (.int .i64 A.last) (.int .i64 A.N) (.bool A.is) (.int .i64 A.e) vo W) (h1 : Rd due W v' A.L) (h2 : Rd due W vo A.out) {u : Value} (o1 : Old w W u v') (o2 : Old w W u vo)
    {tmps : Array Value} {df : List Deferred} (hp : tmps.getD 4 undef = .pointer (some ⟨w.heap.size + 1 + 1, 0, none⟩)) (hp2 : tmps.getD 5 undef = .pointer (some ⟨w.heap.size + 1 + 1 + 1, 0, none⟩)) (hdf : df = []) :
    bodyPost Try.prog Try.f17 (DoPost w u A) Exit.ret { tmps := tmps, defers := df } W := by
  subst hdf
  refine bodyPost_ret (v := .tuple #[.agg #[v', .int .i64 A.last], .agg #[.int .i64 A.N, .bool A.is, .int .i64 A.e, vo]]) ?_ rfl ⟨v', vo, rfl, h1, h2, h.below, o1, o2⟩
  exact results_two rfl hp hp2 h.r h.q Try.underlying47 rfl (by kernel_rfl) Try.underlying41 rfl (by kernel_rfl)
theorem Bx.done2 {w : World} {v : Value} {last kind at_ id : Int} {v' vo : Value} {A : Ans} {W : World} (h : Bx w v last kind at_ id v' (.int .i64 A.last) (.int .i64 A.N) (.bool A.is) (.int .i64 A.e) vo W) (h1 : Below w.heap.size w W → Rd due W v' A.L) (h2 : Rd due W vo A.out) {u : Value} (o1 : Old w W u v') (o2 : Old w W u vo)
    {tmps : Array Value} {df : List Deferred} (hp : tmps.getD 4 undef = .pointer (some ⟨w.heap.size + 1 + 1, 0, none⟩)) (hp2 : tmps.getD 5 undef = .pointer (some ⟨w.heap.size + 1 + 1 + 1, 0, none⟩)) (hdf : df = []) :
    bodyPost Try.prog Try.f17 (DoPost w u A) Exit.ret { tmps := tmps, defers := df } W := h.done (h1 h.below) h2 o1 o2 hp hp2 hdf
theorem rd_nil (w : World) : Rd due w (.slice none 0 0) [] := ⟨none, 0, rfl, Nat.le_refl _, by simp, fun hp => by simp at hp⟩
set_option maxRecDepth 100000 in
set_option maxHeartbeats 800000 in
theorem do_else (v : Value) (R : List D2) (last kind at_ id : Int) (w : World) (h : Rd due w v R) (hl : R.length ≤ 1000) (hk : ¬ (0 ≤ kind ∧ kind ≤ 4)) :
    Calls Try.prog 17 #[.agg #[v, .int .i64 last], .agg #[.int .i64 kind, .int .i64 at_, .int .i64 id]] w (DoPost w v (doR R last kind at_ id)) := by
  have HA := Lib.hid (show doR R last kind at_ id = ⟨R, last, 0, false, 0, []⟩ by unfold doR; rw [if_neg (by omega), if_neg (by omega), if_neg (by omega), if_neg (by omega), if_neg (by omega)])
  rw [HA.out]
  have hbx := Bx.start w v last kind at_ id
  have k0 : (kind == 0) = false := by simp; omega
  have k1 : (kind == 1) = false := by simp; omega
  have k2 : (kind == 2) = false := by simp; omega
  have k3 : (kind == 3) = false := by simp; omega
  have k4 : (kind == 4) = false := by simp; omega
  clear hk
  have HF := Lib.hid (fun W h => rfind_any v R id W h (by omega))
  have HH := Lib.hid h
  obtain ⟨A, c, rfl, -, -, -⟩ := h
  go_enter Try.func17, Try.ntmps17
  go_wp2_with fail
  generalize ((((w.alloc (.cells #[.slice A R.length c, .int .i64 last] 47)).alloc (.cells #[.int .i64 kind, .int .i64 at_, .int .i64 id] 38)).alloc (.cells #[.slice none 0 0, .int .i64 0] 47)).alloc (.cells #[.int .i64 0, .bool false, .int .i64 0, .slice none 0 0] 41)) = W at hbx ⊢
  refine (HF.out _ (HH.out.below hbx.below)).mono ?_
  rintro e w1 ⟨rfl, rfl⟩
  have HBX := Lib.hid hbx
  obtain ⟨c0, c1, c2, c3, c4, c5, c6, c7, c8, c9, c10⟩ := hbx.cells
  obtain ⟨f0, f1, f2⟩ := hbx.free
  clear hbx
  go_wp2_with fail
  have hb := (HBX.out.setR (.slice A R.length c) (.int .i64 last)).setQ (.int .i64 0) (.bool false) (.int .i64 0) (.slice none 0 0)
  refine hb.done (A := ⟨R, last, 0, false, 0, []⟩) (HH.out.below hb.below) (rd_nil _) (Old.same _ _ _) (Old.nil _ _ _) ?_ ?_ ?_ <;> rfl
set_option maxRecDepth 100000 in
set_option maxHeartbeats 1600000 in
theorem do_set_no (v : Value) (R : List D2) (last at_ id : Int) (w : World) (h : Rd due w v R) (hl : R.length ≤ 1000) (hr : (decide (0 ≤ at_) && decide (at_ ≤ 1099511627776)) = false) :
    Calls Try.prog 17 #[.agg #[v, .int .i64 last], .agg #[.int .i64 0, .int .i64 at_, .int .i64 id]] w (DoPost w v ⟨R, last, 0, false, 1, []⟩) := by
  have hbx := Bx.start w v last 0 at_ id
  have HF := Lib.hid (fun W h => rfind_any v R id W h (by omega))
  have HFI : Hid (findI R id = findI R id) := Lib.hid (by rfl)
  have HH := Lib.hid h
  obtain ⟨A, c, rfl, hlc, hlm, hcell⟩ := h
  go_enter Try.func17, Try.ntmps17
  go_wp2_with fail
  generalize ((((w.alloc (.cells #[.slice A R.length c, .int .i64 last] 47)).alloc (.cells #[.int .i64 0, .int .i64 at_, .int .i64 id] 38)).alloc (.cells #[.slice none 0 0, .int .i64 0] 47)).alloc (.cells #[.int .i64 0, .bool false, .int .i64 0, .slice none 0 0] 41)) = W at hbx ⊢
  refine (HF.out _ (HH.out.below hbx.below)).mono ?_
  rintro e w1 ⟨rfl, rfl⟩
  (try rw [HFI.out])
  have HBX := Lib.hid hbx
  obtain ⟨c0, c1, c2, c3, c4, c5, c6, c7, c8, c9, c10⟩ := hbx.cells
  obtain ⟨f0, f1, f2⟩ := hbx.free
  clear hbx
  clear hcell hlc hlm
  go_wp2_with (first | (go_at_call 31; refine (rright_any _ _).mono ?_; rintro e w2 ⟨rfl, rfl⟩; rw [hr]) | fail)
  have hb := (HBX.out.setR (.slice A R.length c) (.int .i64 last)).setQ (.int .i64 0) (.bool false) (.int .i64 1) (.slice none 0 0)
  refine hb.done (A := ⟨R, last, 0, false, 1, []⟩) (HH.out.below hb.below) (rd_nil _) (Old.same _ _ _) (Old.nil _ _ _) ?_ ?_ ?_ <;> rfl
set_option maxRecDepth 100000 in
set_option maxHeartbeats 1600000 in
theorem do_can_no (v : Value) (R : List D2) (last at_ id : Int) (w : World) (h : Rd due w v R) (hl : R.length ≤ 1000) (hf : findL R id = none) :
    Calls Try.prog 17 #[.agg #[v, .int .i64 last], .agg #[.int .i64 1, .int .i64 at_, .int .i64 id]] w (DoPost w v ⟨R, last, 0, false, 0, []⟩) := by
  have hbx := Bx.start w v last 1 at_ id
  have HF := Lib.hid (fun W h => rfind_any v R id W h (by omega))
  have HFI : Hid (findI R id = -1) := Lib.hid (by unfold findI; rw [hf])
  have HH := Lib.hid h
  obtain ⟨A, c, rfl, hlc, hlm, hcell⟩ := h
  go_enter Try.func17, Try.ntmps17
  go_wp2_with fail
  generalize ((((w.alloc (.cells #[.slice A R.length c, .int .i64 last] 47)).alloc (.cells #[.int .i64 1, .int .i64 at_, .int .i64 id] 38)).alloc (.cells #[.slice none 0 0, .int .i64 0] 47)).alloc (.cells #[.int .i64 0, .bool false, .int .i64 0, .slice none 0 0] 41)) = W at hbx ⊢
  refine (HF.out _ (HH.out.below hbx.below)).mono ?_
  rintro e w1 ⟨rfl, rfl⟩
  (try rw [HFI.out])
  have HBX := Lib.hid hbx
  obtain ⟨c0, c1, c2, c3, c4, c5, c6, c7, c8, c9, c10⟩ := hbx.cells
  obtain ⟨f0, f1, f2⟩ := hbx.free
  clear hbx
  clear hcell hlc hlm
  go_wp2_with fail
  have hb := (HBX.out.setR (.slice A R.length c) (.int .i64 last)).setQ (.int .i64 0) (.bool false) (.int .i64 0) (.slice none 0 0)
  refine hb.done (A := ⟨R, last, 0, false, 0, []⟩) (HH.out.below hb.below) (rd_nil _) (Old.same _ _ _) (Old.nil _ _ _) ?_ ?_ ?_ <;> rfl
set_option maxRecDepth 100000 in
set_option maxHeartbeats 1600000 in
theorem do_mov_none (v : Value) (R : List D2) (last at_ id : Int) (w : World) (h : Rd due w v R) (hl : R.length ≤ 1000) (hf : findL R id = none) :
    Calls Try.prog 17 #[.agg #[v, .int .i64 last], .agg #[.int .i64 2, .int .i64 at_, .int .i64 id]] w (DoPost w v ⟨R, last, 0, false, 0, []⟩) := by
  have hbx := Bx.start w v last 2 at_ id
  have HF := Lib.hid (fun W h => rfind_any v R id W h (by omega))
  have HFI : Hid (findI R id = -1) := Lib.hid (by unfold findI; rw [hf])
  have HH := Lib.hid h
  obtain ⟨A, c, rfl, hlc, hlm, hcell⟩ := h
  go_enter Try.func17, Try.ntmps17
  go_wp2_with fail
  generalize ((((w.alloc (.cells #[.slice A R.length c, .int .i64 last] 47)).alloc (.cells #[.int .i64 2, .int .i64 at_, .int .i64 id] 38)).alloc (.cells #[.slice none 0 0, .int .i64 0] 47)).alloc (.cells #[.int .i64 0, .bool false, .int .i64 0, .slice none 0 0] 41)) = W at hbx ⊢
  refine (HF.out _ (HH.out.below hbx.below)).mono ?_
  rintro e w1 ⟨rfl, rfl⟩
  (try rw [HFI.out])
  have HBX := Lib.hid hbx
  obtain ⟨c0, c1, c2, c3, c4, c5, c6, c7, c8, c9, c10⟩ := hbx.cells
  obtain ⟨f0, f1, f2⟩ := hbx.free
  clear hbx
  clear hcell hlc hlm
  go_wp2_with fail
  have hb := (HBX.out.setR (.slice A R.length c) (.int .i64 last)).setQ (.int .i64 0) (.bool false) (.int .i64 0) (.slice none 0 0)
  refine hb.done (A := ⟨R, last, 0, false, 0, []⟩) (HH.out.below hb.below) (rd_nil _) (Old.same _ _ _) (Old.nil _ _ _) ?_ ?_ ?_ <;> rfl
set_option maxRecDepth 100000 in
set_option maxHeartbeats 1600000 in
theorem do_mov_no (v : Value) (R : List D2) (last at_ id : Int) (w : World) (h : Rd due w v R) (hl : R.length ≤ 1000) (k : Nat) (hf : findL R id = some k) (hr : (decide (0 ≤ at_) && decide (at_ ≤ 1099511627776)) = false) :
    Calls Try.prog 17 #[.agg #[v, .int .i64 last], .agg #[.int .i64 2, .int .i64 at_, .int .i64 id]] w (DoPost w v ⟨R, last, 0, false, 0, []⟩) := by
  have hbx := Bx.start w v last 2 at_ id
  have HF := Lib.hid (fun W h => rfind_any v R id W h (by omega))
  have HFI : Hid (findI R id = k) := Lib.hid (by unfold findI; rw [hf])
  have HH := Lib.hid h
  obtain ⟨A, c, rfl, hlc, hlm, hcell⟩ := h
  go_enter Try.func17, Try.ntmps17
  go_wp2_with fail
  generalize ((((w.alloc (.cells #[.slice A R.length c, .int .i64 last] 47)).alloc (.cells #[.int .i64 2, .int .i64 at_, .int .i64 id] 38)).alloc (.cells #[.slice none 0 0, .int .i64 0] 47)).alloc (.cells #[.int .i64 0, .bool false, .int .i64 0, .slice none 0 0] 41)) = W at hbx ⊢
  refine (HF.out _ (HH.out.below hbx.below)).mono ?_
  rintro e w1 ⟨rfl, rfl⟩
  (try rw [HFI.out])
  have HBX := Lib.hid hbx
  obtain ⟨c0, c1, c2, c3, c4, c5, c6, c7, c8, c9, c10⟩ := hbx.cells
  obtain ⟨f0, f1, f2⟩ := hbx.free
  clear hbx
  clear hcell hlc hlm
  have kk : ¬ (k : Int) < 0 := by omega
  go_wp2_with (first | (go_at_call 31; refine (rright_any _ _).mono ?_; rintro e w2 ⟨rfl, rfl⟩; rw [hr]) | fail)
  have hb := (HBX.out.setR (.slice A R.length c) (.int .i64 last)).setQ (.int .i64 0) (.bool false) (.int .i64 0) (.slice none 0 0)
  refine hb.done (A := ⟨R, last, 0, false, 0, []⟩) (HH.out.below hb.below) (rd_nil _) (Old.same _ _ _) (Old.nil _ _ _) ?_ ?_ ?_ <;> rfl
set_option maxRecDepth 100000 in
set_option maxHeartbeats 1600000 in
theorem do_when_none (v : Value) (R : List D2) (last at_ id : Int) (w : World) (h : Rd due w v R) (hl : R.length ≤ 1000) (hf : findL R id = none) :
    Calls Try.prog 17 #[.agg #[v, .int .i64 last], .agg #[.int .i64 3, .int .i64 at_, .int .i64 id]] w (DoPost w v ⟨R, last, 0, false, 0, []⟩) := by
  have hbx := Bx.start w v last 3 at_ id
  have HF := Lib.hid (fun W h => rfind_any v R id W h (by omega))
  have HFI : Hid (findI R id = -1) := Lib.hid (by unfold findI; rw [hf])
  have HH := Lib.hid h
  obtain ⟨A, c, rfl, hlc, hlm, hcell⟩ := h
  go_enter Try.func17, Try.ntmps17
  go_wp2_with fail
  generalize ((((w.alloc (.cells #[.slice A R.length c, .int .i64 last] 47)).alloc (.cells #[.int .i64 3, .int .i64 at_, .int .i64 id] 38)).alloc (.cells #[.slice none 0 0, .int .i64 0] 47)).alloc (.cells #[.int .i64 0, .bool false, .int .i64 0, .slice none 0 0] 41)) = W at hbx ⊢
  refine (HF.out _ (HH.out.below hbx.below)).mono ?_
  rintro e w1 ⟨rfl, rfl⟩
  (try rw [HFI.out])
  have HBX := Lib.hid hbx
  obtain ⟨c0, c1, c2, c3, c4, c5, c6, c7, c8, c9, c10⟩ := hbx.cells
  obtain ⟨f0, f1, f2⟩ := hbx.free
  clear hbx
  clear hcell hlc hlm
  go_wp2_with fail
  have hb := (HBX.out.setR (.slice A R.length c) (.int .i64 last)).setQ (.int .i64 0) (.bool false) (.int .i64 0) (.slice none 0 0)
  refine hb.done (A := ⟨R, last, 0, false, 0, []⟩) (HH.out.below hb.below) (rd_nil _) (Old.same _ _ _) (Old.nil _ _ _) ?_ ?_ ?_ <;> rfl
set_option maxRecDepth 100000 in
set_option maxHeartbeats 1600000 in
theorem do_can_yes (v : Value) (R : List D2) (last at_ id : Int) (w : World) (h : Rd due w v R) (hl : R.length ≤ 1000) (k : Nat) (hf : findL R id = some k) (hk : k < R.length) :
    Calls Try.prog 17 #[.agg #[v, .int .i64 last], .agg #[.int .i64 1, .int .i64 at_, .int .i64 id]] w (DoPost w v ⟨R.eraseIdx k, last, 0, true, 0, []⟩) := by
  have hbx := Bx.start w v last 1 at_ id
  have HF := Lib.hid (fun W h => rfind_any v R id W h (by omega))
  have HFI : Hid (findI R id = k) := Lib.hid (by unfold findI; rw [hf])
  have HH := Lib.hid h
  obtain ⟨A, c, rfl, hlc, hlm, hcell⟩ := h
  go_enter Try.func17, Try.ntmps17
  go_wp2_with fail
  generalize ((((w.alloc (.cells #[.slice A R.length c, .int .i64 last] 47)).alloc (.cells #[.int .i64 1, .int .i64 at_, .int .i64 id] 38)).alloc (.cells #[.slice none 0 0, .int .i64 0] 47)).alloc (.cells #[.int .i64 0, .bool false, .int .i64 0, .slice none 0 0] 41)) = W at hbx ⊢
  refine (HF.out _ (HH.out.below hbx.below)).mono ?_
  rintro e w1 ⟨rfl, rfl⟩
  (try rw [HFI.out])
  have HBX := Lib.hid hbx
  obtain ⟨c0, c1, c2, c3, c4, c5, c6, c7, c8, c9, c10⟩ := hbx.cells
  obtain ⟨f0, f1, f2⟩ := hbx.free
  clear hbx
  clear hcell hlc hlm
  have kk : (0 : Int) ≤ (k : Int) := by omega
  have HWO := Lib.hid (without_any (.slice A R.length c) R k W (HH.out.below HBX.out.below) (by omega) hk)
  go_wp2_with (first | (go_at_call 33; refine HWO.out.mono ?_; rintro e w2 ⟨v2, rfl, hr2, hf2, hb2⟩; have HF2 := Lib.hid hf2; clear hf2; have hbx2 := HBX.out.later hb2; have HBX2 := Lib.hid hbx2; have HR2 := Lib.hid hr2; obtain ⟨A2, cc2, rfl, -, -, -⟩ := hr2; clear c0 c1 c2 c3 c4 c5 c6 c7 c8 c9 c10 f0 f1 f2 hb2; obtain ⟨c0, c1, c2, c3, c4, c5, c6, c7, c8, c9, c10⟩ := hbx2.cells; obtain ⟨f0, f1, f2⟩ := hbx2.free; clear hbx2) | fail)
  have hb := ((HBX2.out.setA (.slice A2 (R.eraseIdx k).length cc2)).setR (.slice A2 (R.eraseIdx k).length cc2) (.int .i64 last)).setQ (.int .i64 0) (.bool true) (.int .i64 0) (.slice none 0 0)
  refine hb.done (A := ⟨R.eraseIdx k, last, 0, true, 0, []⟩) ?_ (rd_nil _) (fun g hg => .inl (by have h1 := HF2.out g hg; have h2 := HBX.out.below.size; exact ⟨by omega, by simpa using h1.2⟩)) (Old.nil _ _ _) ?_ ?_ ?_
  · refine Rd.only (S := fun k => w.heap.size ≤ k ∧ k < w.heap.size + 4) HR2.out ?_ (fun g hg hs => by have := HF2.out g hg; have := lt_of_heap HBX.out.q; omega)
    repeat (first | with_reducible exact Only.refl _ _ | with_reducible refine Only.setCell ?_ (.inl (by simp; try omega)) _ | with_reducible refine Only.drew ?_)
  all_goals rfl
set_option maxRecDepth 100000 in
set_option maxHeartbeats 1600000 in
theorem do_when_yes (v : Value) (R : List D2) (last at_ id : Int) (w : World) (h : Rd due w v R) (hl : R.length ≤ 1000) (k : Nat) (hf : findL R id = some k) (hk : k < R.length) :
    Calls Try.prog 17 #[.agg #[v, .int .i64 last], .agg #[.int .i64 3, .int .i64 at_, .int .i64 id]] w (DoPost w v ⟨R, last, (fn R k).1, true, 0, []⟩) := by
  have hbx := Bx.start w v last 3 at_ id
  have HF := Lib.hid (fun W h => rfind_any v R id W h (by omega))
  have HFI : Hid (findI R id = k) := Lib.hid (by unfold findI; rw [hf])
  have HH := Lib.hid h
  obtain ⟨A, c, rfl, hlc, hlm, hcell⟩ := h
  go_enter Try.func17, Try.ntmps17
  go_wp2_with fail
  generalize ((((w.alloc (.cells #[.slice A R.length c, .int .i64 last] 47)).alloc (.cells #[.int .i64 3, .int .i64 at_, .int .i64 id] 38)).alloc (.cells #[.slice none 0 0, .int .i64 0] 47)).alloc (.cells #[.int .i64 0, .bool false, .int .i64 0, .slice none 0 0] 41)) = W at hbx ⊢
  refine (HF.out _ (HH.out.below hbx.below)).mono ?_
  rintro e w1 ⟨rfl, rfl⟩
  (try rw [HFI.out])
  have HBX := Lib.hid hbx
  obtain ⟨c0, c1, c2, c3, c4, c5, c6, c7, c8, c9, c10⟩ := hbx.cells
  obtain ⟨f0, f1, f2⟩ := hbx.free
  clear hbx
  have kk : ¬ (k : Int) < 0 := by omega
  obtain ⟨d, hd⟩ : ∃ d, R[k]? = some d := ⟨_, List.getElem?_eq_getElem hk⟩
  obtain ⟨b, o, c', hv, e0, e1⟩ := HH.out.at_ hd
  cases hv
  have lb := World.block_lt_of_cell? _ _ e0
  replace e0 := cell_later HBX.out.below e0
  replace e1 := cell_later HBX.out.below e1
  have nb2 : b ≠ w.heap.size + 1 + 1 := by simp at lb; omega
  have nb3 : b ≠ w.heap.size + 1 + 1 + 1 := by simp at lb; omega
  have nb2' : w.heap.size + 1 + 1 ≠ b := by simp at lb; omega
  have nb3' : w.heap.size + 1 + 1 + 1 ≠ b := by simp at lb; omega
  have HFN := Lib.hid (fn_of hd)
  have kl : (k : Int) < (R.length : Int) := by omega
  have k00 : (0 : Int) ≤ (k : Int) := by omega
  clear hcell hlc hlm hd
  go_wp2_with fail
  go_region
  all_goals
    go_wp2_with fail
    (try rw [HFN.out])
    refine Bx.done2 (v := .slice (some ⟨b, o, none⟩) R.length c) (last := last) (kind := 3) (at_ := at_) (id := id) (A := ⟨R, last, d.1, true, 0, []⟩) (v' := .slice (some ⟨b, o, none⟩) R.length c) (vo := .slice none 0 0) ?hb (fun hb => HH.out.below hb) (rd_nil _) (Old.same _ _ _) (Old.nil _ _ _) (by rfl) (by rfl) (by rfl)
    case hb => first | with_reducible exact ((HBX.out.setR _ _).setQ _ _ _ _).drew | with_reducible exact ((HBX.out.setQ _ _ _ _).setR _ _).drew | with_reducible exact (HBX.out.drew.setR _ _).setQ _ _ _ _ | with_reducible exact (HBX.out.drew.setQ _ _ _ _).setR _ _
set_option maxRecDepth 100000 in
set_option maxHeartbeats 1600000 in
theorem do_set_yes (v : Value) (R : List D2) (last at_ id : Int) (w : World) (h : Rd due w v R) (hl : R.length ≤ 1000) (hr : (decide (0 ≤ at_) && decide (at_ ≤ 1099511627776)) = true) (hla : 0 ≤ last ∧ last ≤ 100000) :
    Calls Try.prog 17 #[.agg #[v, .int .i64 last], .agg #[.int .i64 0, .int .i64 at_, .int .i64 id]] w (DoPost w v ⟨putL R (at_, last + 1), last + 1, last + 1, false, 0, []⟩) := by
  have hbx := Bx.start w v last 0 at_ id
  have HF := Lib.hid (fun W h => rfind_any v R id W h (by omega))
  have HFI : Hid (findI R id = findI R id) := Lib.hid (by rfl)
  have HH := Lib.hid h
  obtain ⟨A, c, rfl, hlc, hlm, hcell⟩ := h
  go_enter Try.func17, Try.ntmps17
  go_wp2_with fail
  generalize ((((w.alloc (.cells #[.slice A R.length c, .int .i64 last] 47)).alloc (.cells #[.int .i64 0, .int .i64 at_, .int .i64 id] 38)).alloc (.cells #[.slice none 0 0, .int .i64 0] 47)).alloc (.cells #[.int .i64 0, .bool false, .int .i64 0, .slice none 0 0] 41)) = W at hbx ⊢
  refine (HF.out _ (HH.out.below hbx.below)).mono ?_
  rintro e w1 ⟨rfl, rfl⟩
  (try rw [HFI.out])
  have HBX := Lib.hid hbx
  obtain ⟨c0, c1, c2, c3, c4, c5, c6, c7, c8, c9, c10⟩ := hbx.cells
  obtain ⟨f0, f1, f2⟩ := hbx.free
  clear hbx
  clear hcell hlc hlm
  obtain ⟨hl0, hl1⟩ := hla
  have hl4 : ¬ (4096 : Int) ≤ (R.length : Int) := by omega
  have HBX1 := Lib.hid (HBX.out.setL (last + 1))
  have HPU := Lib.hid (put_any (.slice A R.length c) R (at_, last + 1) (W.setCell ⟨w.heap.size, 1, none⟩ (.int .i64 (last + 1))) (HH.out.below HBX1.out.below) (by omega))
  go_wp2_with (first | (go_at_call 31; refine (rright_any _ _).mono ?_; rintro e w2 ⟨rfl, rfl⟩; rw [hr]) | (go_at_call 32; refine HPU.out.mono ?_; rintro e w2 ⟨v2, rfl, hr2, hf2, hb2⟩; have HF2 := Lib.hid hf2; clear hf2; have hbx2 := HBX1.out.later hb2; have HBX2 := Lib.hid hbx2; have HR2 := Lib.hid hr2; obtain ⟨A2, cc2, rfl, -, -, -⟩ := hr2; clear c0 c1 c2 c3 c4 c5 c6 c7 c8 c9 c10 f0 f1 f2 hb2; obtain ⟨c0, c1, c2, c3, c4, c5, c6, c7, c8, c9, c10⟩ := hbx2.cells; obtain ⟨f0, f1, f2⟩ := hbx2.free; clear hbx2) | fail)
  have HBX3 := Lib.hid (HBX2.out.setA (.slice A2 (putL R (at_, last + 1)).length cc2))
  have HR3 : Hid (Rd due (w2.setCell ⟨w.heap.size, 0, none⟩ (.slice A2 (putL R (at_, last + 1)).length cc2)) (.slice A2 (putL R (at_, last + 1)).length cc2) (putL R (at_, last + 1))) := Lib.hid (by
    refine Rd.only (S := fun k => w.heap.size ≤ k ∧ k < w.heap.size + 4) HR2.out ?_ (fun g hg hs => by have := HF2.out g hg; have := lt_of_heap HBX1.out.q; simp at *; omega)
    repeat (first | with_reducible exact Only.refl _ _ | with_reducible refine Only.setCell ?_ (.inl (by simp; try omega)) _ | with_reducible refine Only.drew ?_))
  have HF3 := Lib.hid (fun g (hg : (Value.slice A2 (putL R (at_, last + 1)).length cc2).ownBlock = some g) (hs : w.heap.size ≤ g ∧ g < w.heap.size + 4) => (by have := HF2.out g hg; have := lt_of_heap HBX1.out.q; simp at *; omega : False))
  have HSZ : Hid (∀ g, (Value.slice A2 (putL R (at_, last + 1)).length cc2).ownBlock = some g → g < (w2.setCell ⟨w.heap.size, 0, none⟩ (.slice A2 (putL R (at_, last + 1)).length cc2)).heap.size) := Lib.hid (fun g hg => by simpa using (HF2.out g hg).2)
  generalize w2.setCell ⟨w.heap.size, 0, none⟩ (.slice A2 (putL R (at_, last + 1)).length cc2) = W3 at HBX3 HR3 HSZ ⊢
  clear c0 c1 c2 c3 c4 c5 c6 c7 c8 c9 c10 f0 f1 f2
  obtain ⟨c0, c1, c2, c3, c4, c5, c6, c7, c8, c9, c10⟩ := HBX3.out.cells
  obtain ⟨f0, f1, f2⟩ := HBX3.out.free
  go_region
  all_goals
    go_wp2_with fail
    refine Bx.done2 (v := .slice A2 (putL R (at_, last + 1)).length cc2) (last := last + 1) (kind := 0) (at_ := at_) (id := id) (A := ⟨putL R (at_, last + 1), last + 1, last + 1, false, 0, []⟩) (v' := .slice A2 (putL R (at_, last + 1)).length cc2) (vo := .slice none 0 0) ?hb ?h1 (rd_nil _) (fun g hg => .inl (by have h1 := HF2.out g hg; have h2 := HBX1.out.below.size; exact ⟨by omega, by simpa using HSZ.out g hg⟩)) (Old.nil _ _ _) (by rfl) (by rfl) (by rfl)
    case hb => first | with_reducible exact ((HBX3.out.setR _ _).setQ _ _ _ _).drew | with_reducible exact ((HBX3.out.setQ _ _ _ _).setR _ _).drew | with_reducible exact (HBX3.out.drew.setR _ _).setQ _ _ _ _ | with_reducible exact (HBX3.out.drew.setQ _ _ _ _).setR _ _
    case h1 =>
      intro _
      refine Rd.only (S := fun k => w.heap.size ≤ k ∧ k < w.heap.size + 4) HR3.out ?_ HF3.out
      repeat (first | with_reducible exact Only.refl _ _ | with_reducible refine Only.setCell ?_ (.inl (by simp; try omega)) _ | with_reducible refine Only.drew ?_)
end Go.Proofs.Ytcnifhkgibopbaa
set_option linter.unusedVariables false
set_option linter.unusedSimpArgs false
namespace Go.Proofs.Ytcnifhkgibopbaa
open Go.RowKit Go.MapKept Go.ChangeMaps
set_option maxRecDepth 100000 in
set_option maxHeartbeats 1600000 in
theorem do_mov_yes (v : Value) (R : List D2) (last at_ id : Int) (w : World) (h : Rd due w v R) (hl : R.length ≤ 1000) (k : Nat) (hf : findL R id = some k) (hk : k < R.length) (hr : (decide (0 ≤ at_) && decide (at_ ≤ 1099511627776)) = true) :
    Calls Try.prog 17 #[.agg #[v, .int .i64 last], .agg #[.int .i64 2, .int .i64 at_, .int .i64 id]] w (DoPost w v ⟨putL (R.eraseIdx k) (at_, id), last, 0, true, 0, []⟩) := by
  have hbx := Bx.start w v last 2 at_ id
  have HF := Lib.hid (fun W h => rfind_any v R id W h (by omega))
  have HFI : Hid (findI R id = k) := Lib.hid (by unfold findI; rw [hf])
  have HH := Lib.hid h
  obtain ⟨A, c, rfl, hlc, hlm, hcell⟩ := h
  go_enter Try.func17, Try.ntmps17
  go_wp2_with fail
  generalize ((((w.alloc (.cells #[.slice A R.length c, .int .i64 last] 47)).alloc (.cells #[.int .i64 2, .int .i64 at_, .int .i64 id] 38)).alloc (.cells #[.slice none 0 0, .int .i64 0] 47)).alloc (.cells #[.int .i64 0, .bool false, .int .i64 0, .slice none 0 0] 41)) = W at hbx ⊢
  refine (HF.out _ (HH.out.below hbx.below)).mono ?_
  rintro e w1 ⟨rfl, rfl⟩
  (try rw [HFI.out])
  have HBX := Lib.hid hbx
  obtain ⟨c0, c1, c2, c3, c4, c5, c6, c7, c8, c9, c10⟩ := hbx.cells
  obtain ⟨f0, f1, f2⟩ := hbx.free
  clear hbx
  clear hcell hlc hlm
  have kk : ¬ (k : Int) < 0 := by omega
  have HWO := Lib.hid (fun W' hb => without_any (.slice A R.length c) R k W' (HH.out.below hb) (by omega) hk)
  have hle : (R.eraseIdx k).length ≤ 1000 := by rw [List.length_eraseIdx]; split <;> omega
  have HPU := Lib.hid (fun v W' h => put_any v (R.eraseIdx k) (at_, id) W' h (by omega))
  clear hle
  go_wp2_with (first | (go_at_call 31; refine (rright_any _ _).mono ?_; rintro e w2 ⟨rfl, rfl⟩; rw [hr]) | fail)
  go_region_with (first
    | (go_at_call 33; refine (HWO.out _ (by first | exact HBX.out.below | exact HBX.out.below.drew)).mono ?_; rintro e w2 ⟨v2, rfl, hr2, hf2, hb2⟩; have HF2 := Lib.hid hf2; clear hf2; have hbx2 := HBX.out.drew.later hb2; have HBX2 := Lib.hid hbx2; have HR2 := Lib.hid hr2; obtain ⟨A2, cc2, rfl, -, -, -⟩ := hr2; clear c0 c1 c2 c3 c4 c5 c6 c7 c8 c9 c10 f0 f1 f2 hb2; obtain ⟨c0, c1, c2, c3, c4, c5, c6, c7, c8, c9, c10⟩ := hbx2.cells; obtain ⟨f0, f1, f2⟩ := hbx2.free; clear hbx2)
    | (go_at_call 32; refine (HPU.out _ _ HR2.out).mono ?_; rintro e w3 ⟨v3, rfl, hr3, hf3, hb3⟩; have HF3 := Lib.hid hf3; clear hf3; have hbx3 := HBX2.out.later hb3; have HBX3 := Lib.hid hbx3; have HR3 := Lib.hid hr3; obtain ⟨A3, cc3, rfl, -, -, -⟩ := hr3; clear c0 c1 c2 c3 c4 c5 c6 c7 c8 c9 c10 f0 f1 f2 hb3; obtain ⟨c0, c1, c2, c3, c4, c5, c6, c7, c8, c9, c10⟩ := hbx3.cells; obtain ⟨f0, f1, f2⟩ := hbx3.free; clear hbx3))
  all_goals
    have HBX4 := Lib.hid (HBX3.out.setA (.slice A3 (putL (R.eraseIdx k) (at_, id)).length cc3))
    have HR4 : Hid (Rd due (w3.setCell ⟨w.heap.size, 0, none⟩ (.slice A3 (putL (R.eraseIdx k) (at_, id)).length cc3)) (.slice A3 (putL (R.eraseIdx k) (at_, id)).length cc3) (putL (R.eraseIdx k) (at_, id))) := Lib.hid (by
      refine Rd.only (S := fun k => w.heap.size ≤ k ∧ k < w.heap.size + 4) HR3.out ?_ (fun g hg hs => by have := HF3.out g hg; have := lt_of_heap HBX2.out.q; omega)
      repeat (first | with_reducible exact Only.refl _ _ | with_reducible refine Only.setCell ?_ (.inl (by simp; try omega)) _ | with_reducible refine Only.drew ?_))
    have HFF := Lib.hid (fun g (hg : (Value.slice A3 (putL (R.eraseIdx k) (at_, id)).length cc3).ownBlock = some g) (hs : w.heap.size ≤ g ∧ g < w.heap.size + 4) => (by have := HF3.out g hg; have := lt_of_heap HBX2.out.q; omega : False))
    have HSZ : Hid (∀ g, (Value.slice A3 (putL (R.eraseIdx k) (at_, id)).length cc3).ownBlock = some g → g < (w3.setCell ⟨w.heap.size, 0, none⟩ (.slice A3 (putL (R.eraseIdx k) (at_, id)).length cc3)).heap.size) := Lib.hid (fun g hg => by simpa using (HF3.out g hg).2)
    generalize w3.setCell ⟨w.heap.size, 0, none⟩ (.slice A3 (putL (R.eraseIdx k) (at_, id)).length cc3) = W4 at HBX4 HR4 HSZ ⊢
    clear c0 c1 c2 c3 c4 c5 c6 c7 c8 c9 c10 f0 f1 f2
    obtain ⟨c0, c1, c2, c3, c4, c5, c6, c7, c8, c9, c10⟩ := HBX4.out.cells
    obtain ⟨f0, f1, f2⟩ := HBX4.out.free
    go_wp2_with fail
    refine Bx.done2 (v := .slice A3 (putL (R.eraseIdx k) (at_, id)).length cc3) (last := last) (kind := 2) (at_ := at_) (id := id) (A := ⟨putL (R.eraseIdx k) (at_, id), last, 0, true, 0, []⟩) (v' := .slice A3 (putL (R.eraseIdx k) (at_, id)).length cc3) (vo := .slice none 0 0) ?hb ?h1 (rd_nil _) (fun g hg => .inl (by have h1 := HF3.out g hg; have h2 := HBX2.out.below.size; exact ⟨by omega, by simpa using HSZ.out g hg⟩)) (Old.nil _ _ _) (by rfl) (by rfl) (by rfl)
    case hb => with_reducible exact (HBX4.out.setR _ _).setQ _ _ _ _
    case h1 =>
      intro _
      refine Rd.only (S := fun k => w.heap.size ≤ k ∧ k < w.heap.size + 4) HR4.out ?_ HFF.out
      repeat (first | with_reducible exact Only.refl _ _ | with_reducible refine Only.setCell ?_ (.inl (by simp; try omega)) _ | with_reducible refine Only.drew ?_)
end Go.Proofs.Ytcnifhkgibopbaa
set_option linter.unusedVariables false
set_option linter.unusedSimpArgs false
namespace Go.Proofs.Ytcnifhkgibopbaa
open Go.RowKit Go.MapKept Go.ChangeMaps
theorem Bx.done3 {w : World} {v : Value} {last kind at_ id : Int} {v' vo : Value} {A : Ans} {W : World} (h : Bx w v last kind at_ id v' (.int .i64 A.last) (.int .i64 A.N) (.bool A.is) (.int .i64 A.e) vo W) (h1 : Below w.heap.size w W → Rd due W v' A.L) (h2 : Below w.heap.size w W → Rd due W vo A.out) {u : Value} (o1 : Old w W u v') (o2 : Old w W u vo)
    {tmps : Array Value} {df : List Deferred} (hp : tmps.getD 4 undef = .pointer (some ⟨w.heap.size + 1 + 1, 0, none⟩)) (hp2 : tmps.getD 5 undef = .pointer (some ⟨w.heap.size + 1 + 1 + 1, 0, none⟩)) (hdf : df = []) :
    bodyPost Try.prog Try.f17 (DoPost w u A) Exit.ret { tmps := tmps, defers := df } W := h.done (h1 h.below) (h2 h.below) o1 o2 hp hp2 hdf
theorem rd_whole {w : World} {A : Option Addr} {c : Nat} {L : List D2} (h : Rd due w (.slice A L.length c) L) (c' : Nat) (hc : L.length ≤ c') : Rd due w (.slice A L.length c') L := by
  obtain ⟨A', c2, hv, h1, h2, h3⟩ := h
  simp only [Value.slice.injEq, true_and] at hv
  obtain ⟨rfl, rfl⟩ := hv
  exact ⟨_, _, rfl, hc, h2, h3⟩
theorem rd_zero (w : World) (A : Option Addr) (c : Nat) : Rd due w (.slice A 0 c) [] := ⟨A, c, rfl, by simp, by simp, fun hp => by simp at hp⟩
theorem while_split {p : D2 → Bool} : ∀ (R : List D2) (i : Nat), i ≤ R.length → (∀ j d, j < i → R[j]? = some d → p d = true) → (∀ d, R[i]? = some d → p d = false) → R.takeWhile p = R.take i ∧ R.dropWhile p = R.drop i := by
  intro R
  induction R with
  | nil => intro i hi _ _; simp
  | cons x r ih =>
    intro i hi h1 h2
    cases i with
    | zero =>
      have := h2 x rfl
      simp [this]
    | succ i =>
      have hx := h1 0 x (by omega) rfl
      obtain ⟨e1, e2⟩ := ih i (by simpa using hi) (fun j d hj hd => h1 (j + 1) d (by omega) (by simpa using hd)) (fun d hd => h2 d (by simpa using hd))
      simp [hx, e1, e2]
theorem rd_take {w : World} {b o c : Nat} {L : List D2} (h : Rd due w (.slice (some ⟨b, o, none⟩) L.length c) L) (i : Nat) (hi : i ≤ L.length) : Rd due w (.slice (some ⟨b, o, none⟩) i c) (L.take i) := by
  obtain ⟨A, c', hv, h1, h2, h3⟩ := h
  simp only [Value.slice.injEq, true_and] at hv
  obtain ⟨rfl, rfl⟩ := hv
  have hl : (L.take i).length = i := by rw [List.length_take]; omega
  refine ⟨_, _, by rw [hl], by omega, by omega, fun hp => ⟨b, o, rfl, fun j u hu => ?_⟩⟩
  obtain ⟨b2, o2, e, hc⟩ := h3 (by omega)
  cases e
  have e : flat due L = flat due (L.take i) ++ flat due (L.drop i) := by rw [← flat_append, List.take_append_drop]
  exact hc j u (by rw [e, List.getElem?_append_left (List.getElem?_eq_some_iff.1 hu).1]; exact hu)
theorem rd_drop {w : World} {b o c : Nat} {L : List D2} (h : Rd due w (.slice (some ⟨b, o, none⟩) L.length c) L) (i : Nat) (hi : i ≤ L.length) (A : Option Addr) (hA : c = i ∨ A = some ⟨b, o + i * 2, none⟩) : Rd due w (.slice A (L.length - i) (c - i)) (L.drop i) := by
  obtain ⟨A', c', hv, h1, h2, h3⟩ := h
  simp only [Value.slice.injEq, true_and] at hv
  obtain ⟨rfl, rfl⟩ := hv
  have hl : (L.drop i).length = L.length - i := by rw [List.length_drop]
  refine ⟨_, _, by rw [hl], by omega, by omega, fun hp => ?_⟩
  rcases hA with hA | rfl
  · omega
  refine ⟨b, o + i * 2, rfl, fun j u hu => ?_⟩
  obtain ⟨b2, o2, e, hc⟩ := h3 (by omega)
  cases e
  have e : flat due L = flat due (L.take i) ++ flat due (L.drop i) := by rw [← flat_append, List.take_append_drop]
  have hlt : (flat due (L.take i)).length = i * 2 := by rw [flat_length due_length, List.length_take]; congr 1; omega
  have := hc (i * 2 + j) u (by rw [e, List.getElem?_append_right (by omega), hlt, Nat.add_sub_cancel_left]; exact hu)
  rw [Nat.add_assoc]
  exact this
set_option maxRecDepth 100000 in
set_option maxHeartbeats 1600000 in
theorem do_take (v : Value) (R : List D2) (last at_ id : Int) (w : World) (h : Rd due w v R) (hl : R.length ≤ 1000)  :
    Calls Try.prog 17 #[.agg #[v, .int .i64 last], .agg #[.int .i64 4, .int .i64 at_, .int .i64 id]] w (DoPost w v ⟨R.dropWhile (fun d => decide (d.1 ≤ at_)), last, 0, false, 0, R.takeWhile (fun d => decide (d.1 ≤ at_))⟩) := by
  have hbx := Bx.start w v last 4 at_ id
  have HF := Lib.hid (fun W h => rfind_any v R id W h (by omega))
  have HFI : Hid (findI R id = findI R id) := Lib.hid (by rfl)
  have HH := Lib.hid h
  obtain ⟨A, c, rfl, hlc, hlm, hcell⟩ := h
  go_enter Try.func17, Try.ntmps17
  go_wp2_with fail
  generalize ((((w.alloc (.cells #[.slice A R.length c, .int .i64 last] 47)).alloc (.cells #[.int .i64 4, .int .i64 at_, .int .i64 id] 38)).alloc (.cells #[.slice none 0 0, .int .i64 0] 47)).alloc (.cells #[.int .i64 0, .bool false, .int .i64 0, .slice none 0 0] 41)) = W at hbx ⊢
  refine (HF.out _ (HH.out.below hbx.below)).mono ?_
  rintro e w1 ⟨rfl, rfl⟩
  (try rw [HFI.out])
  have HBX := Lib.hid hbx
  obtain ⟨c0, c1, c2, c3, c4, c5, c6, c7, c8, c9, c10⟩ := hbx.cells
  obtain ⟨f0, f1, f2⟩ := hbx.free
  clear hbx
  go_wp2_with fail
  go_loopw [7] (fun jv wr => ∃ i : Nat, jv = .int .i64 i ∧ i ≤ R.length ∧ (∀ j d, j < i → R[j]? = some d → d.1 ≤ at_) ∧ Bx w (.slice A R.length c) last 4 at_ id (.slice none 0 0) (.int .i64 0) (.int .i64 0) (.bool false) (.int .i64 0) (.slice none 0 0) wr) (fun jv _ => R.length - (intOf jv).toNat)
  case atStart => exact ⟨0, rfl, Nat.zero_le _, fun j d hj => absurd hj (Nat.not_lt_zero _), HBX.out⟩
  case round =>
    obtain ⟨i, rfl, hi, hall, hbr⟩ := hrel
    have HALL := Lib.hid hall
    have HBR := Lib.hid hbr
    clear c0 c1 c2 c3 c4 c5 c6 c7 c8 c9 c10 f0 f1 f2 hall
    obtain ⟨c0, c1, c2, c3, c4, c5, c6, c7, c8, c9, c10⟩ := hbr.cells
    obtain ⟨f0, f1, f2⟩ := hbr.free
    clear hbr
    by_cases hil : i < R.length
    · obtain ⟨d, hd⟩ : ∃ d, R[i]? = some d := ⟨_, List.getElem?_eq_getElem hil⟩
      obtain ⟨b, o, c', hv, e0, e1⟩ := (HH.out.below HBR.out.below).at_ hd
      cases hv
      have hil' : (i : Int) < (R.length : Int) := by omega
      have hi1 : (i : Int) ≤ 1000 := by omega
      have HD := Lib.hid hd
      clear hd hcell
      by_cases hda : d.1 ≤ at_
      · go_wp2_with fail
        go_region
        all_goals
          go_wp2_with fail
          go_roundw
          case rel =>
            refine ⟨i + 1, by go_num, by omega, fun j d' hj hd' => ?_, by first | exact HBR.out.drew | exact HBR.out⟩
            by_cases hji : j = i
            · subst hji
              rw [HD.out] at hd'
              rw [← Option.some.inj hd']
              exact hda
            · exact HALL.out j d' (by omega) hd'
          case measure => simp [intOf]; omega
      · have HDA := Lib.hid hda
        have hdad : decide (d.1 ≤ at_) = false := decide_eq_false hda
        clear hda
        go_wp2_with fail
        go_region
        have SPL := Lib.hid (while_split (p := fun d => decide (d.1 ≤ at_)) R i hi (fun j d' hj hd' => by have := HALL.out j d' hj hd'; simpa using this) (fun d' hd' => by rw [HD.out] at hd'; rw [← Option.some.inj hd']; simpa using HDA.out))
        all_goals
          go_wp2_with fail
          rw [SPL.out.1, SPL.out.2]
          refine Bx.done3 (v := .slice (some ⟨b, o + i * 2, none⟩) (R.length - i) (c - i)) (last := last) (kind := 4) (at_ := at_) (id := id) (A := ⟨R.drop i, last, 0, false, 0, R.take i⟩) (v' := .slice (some ⟨b, o + i * 2, none⟩) (R.length - i) (c - i)) (vo := .slice (some ⟨b, o, none⟩) i c) ?hb (fun hb => rd_drop (HH.out.below hb) i hi _ (.inr rfl)) (fun hb => rd_take (HH.out.below hb) i hi) (fun g hg => .inr (by simpa [Value.ownBlock] using hg)) (fun g hg => .inr (by simpa [Value.ownBlock] using hg)) (by rfl) (by rfl) (by rfl)
          case hb => first | with_reducible exact (((HBR.out.setA _).setR _ _).setQ _ _ _ _).drew | with_reducible exact ((HBR.out.setA _).setR _ _).setQ _ _ _ _ | with_reducible exact ((HBR.out.drew.setA _).setR _ _).setQ _ _ _ _
    · obtain rfl : i = R.length := by omega
      go_wp2_with fail
      go_region
      have SPL := Lib.hid (while_split (p := fun d => decide (d.1 ≤ at_)) R R.length hi (fun j d' hj hd' => by have := HALL.out j d' hj hd'; simpa using this) (fun d' hd' => by rw [List.getElem?_eq_none (Nat.le_refl _)] at hd'; cases hd'))
      rw [List.take_length, List.drop_length] at SPL
      all_goals
        go_wp2_with fail
      all_goals
        rw [SPL.out.1, SPL.out.2]
        refine Bx.done3 (v := ?_) (last := last) (kind := 4) (at_ := at_) (id := id) (A := ⟨[], last, 0, false, 0, R⟩) (v' := ?_) (vo := ?_) ?hb ?h1 ?h2 ?o1 ?o2 (by rfl) (by rfl) (by rfl)
        case hb => first | with_reducible exact (((HBR.out.setA _).setR _ _).setQ _ _ _ _).drew | with_reducible exact ((HBR.out.setA _).setR _ _).setQ _ _ _ _ | with_reducible exact ((HBR.out.drew.setA _).setR _ _).setQ _ _ _ _
        case h1 => exact fun _ => rd_zero _ _ _
        case o1 => exact fun g hg => .inr (by cases A <;> simp [Value.ownBlock, Addr.add] at hg ⊢ <;> (try split at hg) <;> simpa using hg)
        case o2 => exact fun g hg => .inr (by cases A <;> first | (simp [Value.ownBlock] at hg; done) | simpa [Value.ownBlock] using hg)
        case h2 => exact fun hb => rd_whole (HH.out.below hb) _ (by omega)
end Go.Proofs.Ytcnifhkgibopbaa
set_option linter.unusedVariables false
set_option linter.unusedSimpArgs false
namespace Go.Proofs.Ytcnifhkgibopbaa
open Go.RowKit Go.MapKept Go.ChangeMaps
theorem do_any (v : Value) (R : List D2) (last kind at_ id : Int) (w : World) (h : Rd due w v R) (hl : R.length ≤ 1000) (hla : 0 ≤ last ∧ last ≤ 100000) :
    Calls Try.prog 17 #[.agg #[v, .int .i64 last], .agg #[.int .i64 kind, .int .i64 at_, .int .i64 id]] w (DoPost w v (doR R last kind at_ id)) := by
  have klt : ∀ k, findL R id = some k → k < R.length := fun k hf => by
    obtain ⟨d, hd, _⟩ := findL_some hf
    exact (List.getElem?_eq_some_iff.1 hd).1
  by_cases hk : 0 ≤ kind ∧ kind ≤ 4
  · have : kind = 0 ∨ kind = 1 ∨ kind = 2 ∨ kind = 3 ∨ kind = 4 := by omega
    rcases this with rfl | rfl | rfl | rfl | rfl
    · cases hr : (decide (0 ≤ at_) && decide (at_ ≤ 1099511627776))
      · have e : doR R last 0 at_ id = ⟨R, last, 0, false, 1, []⟩ := by unfold doR; rw [if_pos rfl, hr]; rfl
        rw [e]; exact do_set_no v R last at_ id w h hl hr
      · have e : doR R last 0 at_ id = ⟨putL R (at_, last + 1), last + 1, last + 1, false, 0, []⟩ := by unfold doR; rw [if_pos rfl, hr]; rfl
        rw [e]; exact do_set_yes v R last at_ id w h hl hr hla
    · cases hf : findL R id with
      | none =>
        have e : doR R last 1 at_ id = ⟨R, last, 0, false, 0, []⟩ := by unfold doR; rw [if_neg (by decide), if_pos rfl, hf]
        rw [e]; exact do_can_no v R last at_ id w h hl hf
      | some k =>
        have e : doR R last 1 at_ id = ⟨R.eraseIdx k, last, 0, true, 0, []⟩ := by unfold doR; rw [if_neg (by decide), if_pos rfl, hf]
        rw [e]; exact do_can_yes v R last at_ id w h hl k hf (klt k hf)
    · cases hf : findL R id with
      | none =>
        have e : doR R last 2 at_ id = ⟨R, last, 0, false, 0, []⟩ := by unfold doR; rw [if_neg (by decide), if_neg (by decide), if_pos rfl, hf]
        rw [e]; exact do_mov_none v R last at_ id w h hl hf
      | some k =>
        cases hr : (decide (0 ≤ at_) && decide (at_ ≤ 1099511627776))
        · have e : doR R last 2 at_ id = ⟨R, last, 0, false, 0, []⟩ := by unfold doR; rw [if_neg (by decide), if_neg (by decide), if_pos rfl, hf, hr]; rfl
          rw [e]; exact do_mov_no v R last at_ id w h hl k hf hr
        · have e : doR R last 2 at_ id = ⟨putL (R.eraseIdx k) (at_, id), last, 0, true, 0, []⟩ := by unfold doR; rw [if_neg (by decide), if_neg (by decide), if_pos rfl, hf, hr]; rfl
          rw [e]; exact do_mov_yes v R last at_ id w h hl k hf (klt k hf) hr
    · cases hf : findL R id with
      | none =>
        have e : doR R last 3 at_ id = ⟨R, last, 0, false, 0, []⟩ := by unfold doR; rw [if_neg (by decide), if_neg (by decide), if_neg (by decide), if_pos rfl, hf]
        rw [e]; exact do_when_none v R last at_ id w h hl hf
      | some k =>
        have e : doR R last 3 at_ id = ⟨R, last, (fn R k).1, true, 0, []⟩ := by unfold doR; rw [if_neg (by decide), if_neg (by decide), if_neg (by decide), if_pos rfl, hf]
        rw [e]; exact do_when_yes v R last at_ id w h hl k hf (klt k hf)
    · exact do_take v R last at_ id w h hl
  · exact do_else v R last kind at_ id w h hl hk
theorem putL_perm : ∀ (R : List D2) (d : D2), (putL R d).Perm (d :: R) := by
  intro R d
  induction R with
  | nil => exact List.Perm.refl _
  | cons x r ih =>
    unfold putL
    split
    · exact List.Perm.refl _
    · exact (List.Perm.cons x ih).trans (List.Perm.swap d x r)
theorem putL_pair : ∀ (R : List D2) (d : D2), R.Pairwise le → (putL R d).Pairwise le := by
  intro R d
  induction R with
  | nil => intro _; simp [putL]
  | cons x r ih =>
    intro h
    have hx := List.pairwise_cons.1 h
    unfold putL
    split
    · rename_i ha
      rw [ahead_true] at ha
      refine List.pairwise_cons.2 ⟨fun y hy => ?_, h⟩
      rcases List.mem_cons.1 hy with rfl | hy
      · exact lt_le ha
      · exact le_trans' (lt_le ha) (hx.1 y hy)
    · rename_i ha
      rw [Bool.not_eq_true, ahead_false] at ha
      refine List.pairwise_cons.2 ⟨fun y hy => ?_, ih hx.2⟩
      rcases List.mem_cons.1 ((putL_perm r d).mem_iff.1 hy) with rfl | hy
      · exact ha
      · exact hx.1 y hy
theorem uq_perm {L M : List D2} (h : L.Perm M) (hu : Uq L) : Uq M := fun d hd d' hd' he => hu d (h.mem_iff.2 hd) d' (h.mem_iff.2 hd') he
theorem tick_sort {L : List D2} (hu : Uq L) (id : Int) : tickOf (sortL L) id = tickOf L id := by
  apply Option.ext
  intro t
  rw [tick_iff (uq_perm (sortL_perm L).symm hu), tick_iff hu, (sortL_perm L).mem_iff]
theorem find_sort {L : List D2} (hu : Uq L) (id : Int) : (findL L id = none ∧ findL (sortL L) id = none) ∨
    ∃ k j d, findL L id = some k ∧ findL (sortL L) id = some j ∧ L[k]? = some d ∧ (sortL L)[j]? = some d ∧ d.2 = id := by
  have ht := tick_sort hu id
  cases hf : findL L id with
  | none =>
    left
    refine ⟨rfl, ?_⟩
    cases hg : findL (sortL L) id with
    | none => rfl
    | some j => unfold tickOf at ht; rw [hf, hg] at ht; cases ht
  | some k =>
    right
    cases hg : findL (sortL L) id with
    | none => unfold tickOf at ht; rw [hf, hg] at ht; cases ht
    | some j =>
      obtain ⟨d, hd, he⟩ := findL_some hf
      obtain ⟨d', hd', he'⟩ := findL_some hg
      have hm : d' ∈ L := (sortL_perm L).mem_iff.1 (List.mem_of_getElem? hd')
      have : d' = d := hu _ hm _ (List.mem_of_getElem? hd) (by rw [he, he'])
      subst this
      exact ⟨k, j, d', rfl, rfl, hd, hd', he⟩
theorem getElem_of {L : List D2} {k : Nat} {d : D2} (h : L[k]? = some d) : ∃ hk : k < L.length, L[k] = d := List.getElem?_eq_some_iff.1 h
theorem erase_perm {L : List D2} {k : Nat} {d : D2} (h : L[k]? = some d) : (d :: L.eraseIdx k).Perm L := by
  obtain ⟨hk, rfl⟩ := getElem_of h
  have e : L = L.take k ++ L[k] :: L.drop (k + 1) := by simp
  rw [List.eraseIdx_eq_take_drop_succ]
  conv => rhs; rw [e]
  exact List.perm_middle.symm
theorem set_perm {L : List D2} {k : Nat} (hk : k < L.length) (a : D2) : (L.set k a).Perm (a :: L.eraseIdx k) := by
  rw [List.set_eq_take_append_cons_drop, if_pos hk, List.eraseIdx_eq_take_drop_succ]
  exact List.perm_middle
theorem drop_sort {L : List D2} {k j : Nat} {d : D2} (hk : L[k]? = some d) (hj : (sortL L)[j]? = some d) : sortL (dropL L k) = (sortL L).eraseIdx j := by
  obtain ⟨hkl, hkd⟩ := getElem_of hk
  have p1 := drop_perm hkl
  rw [hkd] at p1
  have p2 := (erase_perm hj).trans (sortL_perm L)
  have p3 : ((sortL L).eraseIdx j).Perm (dropL L k) := (List.perm_cons d).1 (p2.trans p1.symm)
  exact (sorted_eq p3 ((sortL_pair L).sublist (List.eraseIdx_sublist _ _))).symm
theorem doR_doL {L : List D2} {last : Int} {n : Nat} (h : St L last n) (hx : ∃ m, Idx L m) (kind at_ id : Int) :
    doR (sortL L) last kind at_ id = ⟨sortL (doL L last kind at_ id).L, (doL L last kind at_ id).last, (doL L last kind at_ id).N, (doL L last kind at_ id).is, (doL L last kind at_ id).e, (doL L last kind at_ id).out⟩ := by
  obtain ⟨m, hx⟩ := hx
  have hu := hx.uq
  unfold doR doL
  by_cases k0 : kind = 0
  · rw [if_pos k0, if_pos k0]
    split
    · have e : sortL (setL L at_ (last + 1)) = putL (sortL L) (at_, last + 1) := by
        refine (sorted_eq ?_ (putL_pair _ _ (sortL_pair L))).symm
        refine (putL_perm _ _).trans ?_
        refine (List.Perm.cons _ (sortL_perm L)).trans ?_
        exact (List.perm_append_singleton _ _).symm.trans (set_perm' L at_ (last + 1)).symm
      rw [e]
    · rfl
  · rw [if_neg k0, if_neg k0]
    by_cases k1 : kind = 1
    · rw [if_pos k1, if_pos k1]
      rcases find_sort hu id with ⟨e1, e2⟩ | ⟨k, j, d, e1, e2, hk, hj, hd⟩
      · rw [e1, e2]
      · rw [e1, e2]
        simp only
        rw [drop_sort hk hj]
    · rw [if_neg k1, if_neg k1]
      by_cases k2 : kind = 2
      · rw [if_pos k2, if_pos k2]
        rcases find_sort hu id with ⟨e1, e2⟩ | ⟨k, j, d, e1, e2, hk, hj, hd⟩
        · rw [e1, e2]
        · rw [e1, e2]
          simp only
          split
          · obtain ⟨hkl, hkd⟩ := getElem_of hk
            have e : sortL (moveL L k at_) = putL ((sortL L).eraseIdx j) (at_, id) := by
              refine (sorted_eq ?_ (putL_pair _ _ ((sortL_pair L).sublist (List.eraseIdx_sublist _ _)))).symm
              have hp := move_perm hkl at_ (hx.rise_find hkl at_)
              rw [fn_of hk, hd] at hp
              refine (putL_perm _ _).trans ?_
              have p2 := (erase_perm hj).trans (sortL_perm L)
              have p3 : ((sortL L).eraseIdx j).Perm (L.eraseIdx k) := (List.perm_cons d).1 (p2.trans (erase_perm hk).symm)
              refine (List.Perm.cons _ p3).trans ?_
              exact (set_perm hkl (at_, id)).symm.trans hp.symm
            rw [e]
          · rfl
      · rw [if_neg k2, if_neg k2]
        by_cases k3 : kind = 3
        · rw [if_pos k3, if_pos k3]
          rcases find_sort hu id with ⟨e1, e2⟩ | ⟨k, j, d, e1, e2, hk, hj, hd⟩
          · rw [e1, e2]
          · rw [e1, e2]
            simp only
            rw [fn_of hk, fn_of hj]
        · rw [if_neg k3, if_neg k3]
          by_cases k4 : kind = 4
          · rw [if_pos k4, if_pos k4]
            obtain ⟨p1, s1, l1, g1, _⟩ := take_spec L.length at_ L (Nat.le_refl _) h.heap
            generalize (takeL L.length at_ L).1 = x at *
            generalize (takeL L.length at_ L).2 = L2 at *
            have e : sortL L = x ++ sortL L2 := by
              refine (sorted_eq ((List.Perm.append_left x (sortL_perm L2)).trans p1) ?_).symm
              rw [List.pairwise_append]
              refine ⟨s1, sortL_pair L2, fun a ha b hb => ?_⟩
              have := l1 a ha
              have := g1 b ((sortL_perm L2).mem_iff.1 hb)
              unfold le
              omega
            have f := while_split (p := fun d => decide (d.1 ≤ at_)) (x ++ sortL L2) x.length (by simp) (fun j d hj hd => by
                rw [List.getElem?_append_left hj] at hd
                have := l1 d (List.mem_of_getElem? hd)
                simpa using this) (fun d hd => by
                rw [List.getElem?_append_right (Nat.le_refl _)] at hd
                have := g1 d ((sortL_perm L2).mem_iff.1 (List.mem_of_getElem? hd))
                simp
                omega)
            rw [e, f.1, f.2]
            simp
          · rw [if_neg k4, if_neg k4]
end Go.Proofs.Ytcnifhkgibopbaa
set_option linter.unusedVariables false
set_option linter.unusedSimpArgs false
namespace Go.Proofs.Ytcnifhkgibopbaa
open Go.RowKit Go.MapKept Go.ChangeMaps
theorem cell_at {w w' : World} {a : Addr} {v : Value} (hb : Below w.heap.size w w') (h : w.cell? a = some v) : w'.cell? a = some v := by
  rw [hb.cell (World.block_lt_of_cell? _ _ h)]; exact h
end Go.Proofs.Ytcnifhkgibopbaa
set_option linter.unusedVariables false
set_option linter.unusedSimpArgs false
namespace Go.Proofs.Ytcnifhkgibopbaa
open Go.RowKit Go.MapKept Go.ChangeMaps
structure RS (w : World) (pa br : Nat) (L : List D2) (last : Int) (n : Nat) (S : Nat → Prop) (v : Value) (W : World) : Prop where
  alm : Alm W pa L last S
  st : St L last n
  sub : ∀ k, S k → w.heap.size ≤ k
  below : Below w.heap.size w W
  box : W.heap[br]? = some (.cells #[v, .int .i64 last] 47 (0, 0))
  rd : Rd due W v (sortL L)
  fr : ∀ g, v.ownBlock = some g → ¬ S g ∧ g ≠ br ∧ g < W.heap.size
  nb : ¬ S br
  lo : w.heap.size ≤ br
theorem RS.other {w : World} {pa br : Nat} {L : List D2} {last : Int} {n : Nat} {S X : Nat → Prop} {v : Value} {W W' : World} (h : RS w pa br L last n S v W) (ho : Only X W W') (hb : Below w.heap.size w W')
    (hS : ∀ k, S k → ¬ X k) (hbr : ¬ X br) (hv : ∀ g, v.ownBlock = some g → ¬ X g) : RS w pa br L last n S v W' :=
  ⟨h.alm.other ho hS, h.st, h.sub, hb, ho.obj h.box hbr, h.rd.only ho hv, fun g hg => ⟨(h.fr g hg).1, (h.fr g hg).2.1, Nat.lt_of_lt_of_le (h.fr g hg).2.2 ho.size⟩, h.nb, h.lo⟩
theorem RS.later {w : World} {pa br : Nat} {L : List D2} {last : Int} {n : Nat} {S : Nat → Prop} {v : Value} {W W' : World} (h : RS w pa br L last n S v W) (hb : Below W.heap.size W W') : RS w pa br L last n S v W' :=
  h.other (X := fun _ => False) (Only.of_below hb) (h.below.trans (hb.mono h.below.size)) (fun _ _ x => x) (fun x => x) (fun _ _ x => x)
theorem RS.lt {w : World} {pa br : Nat} {L : List D2} {last : Int} {n : Nat} {S : Nat → Prop} {v : Value} {W : World} (h : RS w pa br L last n S v W) : br < W.heap.size := lt_of_heap h.box
def wd (w2 : World) (br : Nat) (v2 : Value) (last2 : Int) (cA cB : Obj) : World := (((w2.setCell ⟨br, 0, none⟩ v2).setCell ⟨br, 1, none⟩ (.int .i64 last2)).alloc cA).alloc cB
theorem wd_only (w2 : World) (br : Nat) (v2 : Value) (last2 : Int) (cA cB : Obj) : Only (fun k => k = br) w2 (wd w2 br v2 last2 cA cB) :=
  (((((Only.refl (fun k => k = br) w2).setCell (p := ⟨br, 0, none⟩) (.inl rfl) v2).setCell (p := ⟨br, 1, none⟩) (.inl rfl) (.int .i64 last2)).alloc cA).alloc cB)
theorem RS.step {w : World} {pa br : Nat} {L : List D2} {last : Int} {n : Nat} {S : Nat → Prop} {v : Value} {W W1 w2 : World} (h : RS w pa br L last n S v W) (hb1 : Below W.heap.size W W1) (hb2 : Below W1.heap.size W1 w2)
    (kind at_ id : Int) {v2 : Value} (hr2 : Rd due w2 v2 (sortL (doL L last kind at_ id).L)) (ho2 : Old W1 w2 v v2) (cA cB : Obj) :
    Alm (wd w2 br v2 (doL L last kind at_ id).last cA cB) pa L last S ∧ Below w.heap.size w (wd w2 br v2 (doL L last kind at_ id).last cA cB) ∧
    ∀ w3 S2, Alm w3 pa (doL L last kind at_ id).L (doL L last kind at_ id).last S2 → (∀ k, S2 k → S k ∨ (wd w2 br v2 (doL L last kind at_ id).last cA cB).heap.size ≤ k) → Only S (wd w2 br v2 (doL L last kind at_ id).last cA cB) w3 →
      RS w pa br (doL L last kind at_ id).L (doL L last kind at_ id).last (n + 1) S2 v2 w3 := by
  have h2 := (h.later hb1).later hb2
  have hbr2 := h2.lt
  have how := wd_only w2 br v2 (doL L last kind at_ id).last cA cB
  have hsz : ∀ g, v2.ownBlock = some g → ¬ S g ∧ g ≠ br ∧ g < w2.heap.size := by
    intro g hg
    rcases ho2 g hg with ⟨h3, h4⟩ | h3
    · have hbr1 := (h.later hb1).lt
      exact ⟨fun hs => by have := (h.later hb1).alm.low g hs; omega, by omega, h4⟩
    · exact h2.fr g h3
  have hal := h2.alm.other how (fun k hs he => h.nb (he ▸ hs))
  have hbd := below_of_only h2.below how h2.below.size (fun k he => he ▸ h.lo)
  have hbox : (wd w2 br v2 (doL L last kind at_ id).last cA cB).heap[br]? = some (.cells #[v2, .int .i64 (doL L last kind at_ id).last] 47 (0, 0)) := by
    have h5 := heap_set_eq (i := 1) _ (.int .i64 (doL L last kind at_ id).last) (heap_set_eq (i := 0) w2 v2 h2.box)
    have h6 : (#[v, Value.int .i64 last].setIfInBounds 0 v2).setIfInBounds 1 (.int .i64 (doL L last kind at_ id).last) = #[v2, .int .i64 (doL L last kind at_ id).last] := by simp
    rw [h6] at h5
    exact heap_alloc_lt _ _ (heap_alloc_lt _ _ h5)
  refine ⟨hal, hbd, fun w3 S2 ha3 hs3 ho3 => ?_⟩
  have hlt : ∀ g, g < w2.heap.size → g < (wd w2 br v2 (doL L last kind at_ id).last cA cB).heap.size := fun g hg => Nat.lt_of_lt_of_le hg how.size
  have hno : ∀ g, g < w2.heap.size → ¬ S g → ¬ S2 g := fun g hg hS hs => by
    rcases hs3 g hs with h | h
    · exact hS h
    · have := hlt g hg; omega
  refine ⟨ha3, h.st.do_ h.alm.idx kind at_ id, fun k hs => ?_, below_of_only hbd ho3 hbd.size h.sub, ho3.obj hbox h.nb, (hr2.only how (fun g hg => (hsz g hg).2.1)).only ho3 (fun g hg => (hsz g hg).1), fun g hg => ?_, hno br hbr2 h.nb, h.lo⟩
  · rcases hs3 k hs with h' | h'
    · exact h.sub k h'
    · have := hbd.size; omega
  · obtain ⟨q1, q2, q3⟩ := hsz g hg
    exact ⟨hno g q3 q1, q2, Nat.lt_of_lt_of_le (hlt g q3) ho3.size⟩
theorem RS.told {w : World} {pa br : Nat} {L : List D2} {last : Int} {n : Nat} {S : Nat → Prop} {v : Value} {W W1 w2 : World} (h : RS w pa br L last n S v W) (hb1 : Below W.heap.size W W1) (hb2 : Below W1.heap.size W1 w2)
    {vo : Value} {X : List D2} (hro : Rd due w2 vo X) (hoo : Old W1 w2 v vo) {v2 : Value} {last2 : Int} {cA cB : Obj} {w3 : World} (ho3 : Only S (wd w2 br v2 last2 cA cB) w3) : Rd due w3 vo X := by
  have h2 := (h.later hb1).later hb2
  have hsz : ∀ g, vo.ownBlock = some g → ¬ S g ∧ g ≠ br := by
    intro g hg
    rcases hoo g hg with ⟨h3, h4⟩ | h3
    · have hbr1 := (h.later hb1).lt
      exact ⟨fun hs => by have := (h.later hb1).alm.low g hs; omega, by omega⟩
    · exact ⟨(h2.fr g h3).1, (h2.fr g h3).2.1⟩
  exact (hro.only (wd_only w2 br v2 last2 cA cB) (fun g hg => (hsz g hg).2)).only ho3 (fun g hg => (hsz g hg).1)
theorem RS.want {w : World} {pa br : Nat} {L : List D2} {last : Int} {n : Nat} {S : Nat → Prop} {v : Value} {W W1 w2 : World} (h : RS w pa br L last n S v W) (hb1 : Below W.heap.size W W1) (hb2 : Below W1.heap.size W1 w2)
    {v2 : Value} {last2 : Int} {cA cB : Obj} {w3 : World} (ho3 : Only S (wd w2 br v2 last2 cA cB) w3) : w3.heap[w2.heap.size + 1]? = some cB := by
  have h2 := (h.later hb1).later hb2
  have hx : (wd w2 br v2 last2 cA cB).heap[w2.heap.size + 1]? = some cB := by
    have := (heap_alloc (((w2.setCell ⟨br, 0, none⟩ v2).setCell ⟨br, 1, none⟩ (.int .i64 last2)).alloc cA) cB).1
    simp only [wd]
    simpa using this
  exact ho3.obj hx (fun hs => by have := h2.alm.low _ hs; omega)
theorem same_self (a b : Value) (L : List D2) (w : World) (ha : Rd due w a L) (hb : Rd due w b L) :
    Calls Try.prog 18 #[a, b] w fun e w' => e = .returned (.bool true) ∧ Below w.heap.size w w' := by
  refine (same_any a b L L w ha hb).mono ?_
  rintro e w' ⟨rfl, h⟩
  exact ⟨by simp, h⟩
end Go.Proofs.Ytcnifhkgibopbaa
