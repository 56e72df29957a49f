/- Gathered by a program of this session (shake.py): what the claim's theorem needs. -/
import Derived.Test.YtlglbpjccpdloaaSO1
import Derived.Test.YtlglbpjccpdloaaSO2
import Derived.Test.YtlglbpjccpdloaaSO3
import Derived.Test.YtlglbpjccpdloaaSO4
import Derived.Test.YtlglbpjccpdloaaSO5
import Derived.Test.YtlglbpjccpdloaaSO6
import Derived.IntWalk
set_option linter.unusedVariables false
set_option linter.unusedSimpArgs false
namespace Go.Proofs.Ytlglbpjccpdloaa.Ext
end Go.Proofs.Ytlglbpjccpdloaa.Ext
namespace Go.Proofs.Ytlglbpjccpdloaa.PNamA
end Go.Proofs.Ytlglbpjccpdloaa.PNamA
namespace Go.Proofs.Ytlglbpjccpdloaa.Tox
end Go.Proofs.Ytlglbpjccpdloaa.Tox
namespace Go.Proofs.Ytlglbpjccpdloaa.ToxZ
end Go.Proofs.Ytlglbpjccpdloaa.ToxZ
namespace Go.Proofs.YtlglbpjccpdloaaW.PrintLast
end Go.Proofs.YtlglbpjccpdloaaW.PrintLast
namespace Go.Proofs.YtlglbpjccpdloaaW.PrintMore
end Go.Proofs.YtlglbpjccpdloaaW.PrintMore
namespace Go.Proofs.YtlglbpjccpdloaaW.PrintWords
end Go.Proofs.YtlglbpjccpdloaaW.PrintWords
set_option linter.unusedVariables false
set_option linter.unusedSimpArgs false
namespace Go.Proofs.Ytlglbpjccpdloaa.Ext
open Go.RowKit Go.Shelf Go.Proofs.Ytlglbpjccpdloaa.PNamA Go.Proofs.Ytlglbpjccpdloaa.Tox Go.Proofs.Ytlglbpjccpdloaa.ToxZ Go.Proofs.YtlglbpjccpdloaaW.PrintWords Go.Proofs.YtlglbpjccpdloaaW.PrintLast
def names_AddToxic.f (l : List S24) (s : ByteArray) (t0 : ByteArray) (t1 : Int) (t2 : Bool) (t3 t4 t5 : Int) : Option (List S24 × Int) := if l.length ≤ 4611686018427387904 then some (changeOf (addT ⟨t0, t1, t2, t3, t4, t5⟩) l s) else none
set_option maxRecDepth 100000 in
theorem names_AddToxic.calls (A0 : Option Addr) (c0 : Nat) (l0 : List S24) (s : ByteArray) (t0 : ByteArray) (t1 : Int) (t2 : Bool) (t3 t4 t5 : Int) (r1 : List S24) (r2 : Int) (w : World) (hr0 : Kd.C k24 w A0 l0.length l0) (hc0 : l0.length ≤ c0) (h : names_AddToxic.f l0 s t0 t1 t2 t3 t4 t5 = some (r1, r2)) :
    Calls Try.prog 18 #[.slice A0 l0.length c0, .string s, .agg #[.string t0, .int .i64 t1, .bool t2, .int .i64 t3, .int .i64 t4, .int .i64 t5]] w fun e w' => ∃ v0_ : Value, e = .returned (.tuple #[v0_, .int .i64 r2]) ∧ Kd.S k24 24 w' w.heap.size (fun _ => True) v0_ r1 ∧ Below w.heap.size w w' := by
  unfold names_AddToxic.f at h
  split at h
  · rename_i hm
    have hres := Option.some.inj h
    have hb : Below w.heap.size w (w.alloc (.cells #[.string t0, .int .i64 t1, .bool t2, .int .i64 t3, .int .i64 t4, .int .i64 t5] 39)) := (Below.refl _ w).alloc (Nat.le_refl _) _
    have HC := Lib.hid (change_any 45 #[.pointer (some ⟨w.heap.size, 0, none⟩)] (addT ⟨t0, t1, t2, t3, t4, t5⟩) A0 c0 l0 s (w.alloc (.cells #[.string t0, .int .i64 t1, .bool t2, .int .i64 t3, .int .i64 t4, .int .i64 t5] 39)) (Kd.C_below hr0 hb) hc0 hm (enters_of Try.func45 (by kernel_rfl) rfl) (by
      intro W b n cap i xs x hbW hS hx h8
      have o0 := nm_cell_at hbW (nm_box w #[.string t0, .int .i64 t1, .bool t2, .int .i64 t3, .int .i64 t4, .int .i64 t5] 39 0)
      have o1 := nm_cell_at hbW (nm_box w #[.string t0, .int .i64 t1, .bool t2, .int .i64 t3, .int .i64 t4, .int .i64 t5] 39 1)
      have o2 := nm_cell_at hbW (nm_box w #[.string t0, .int .i64 t1, .bool t2, .int .i64 t3, .int .i64 t4, .int .i64 t5] 39 2)
      have o3 := nm_cell_at hbW (nm_box w #[.string t0, .int .i64 t1, .bool t2, .int .i64 t3, .int .i64 t4, .int .i64 t5] 39 3)
      have o4 := nm_cell_at hbW (nm_box w #[.string t0, .int .i64 t1, .bool t2, .int .i64 t3, .int .i64 t4, .int .i64 t5] 39 4)
      have o5 := nm_cell_at hbW (nm_box w #[.string t0, .int .i64 t1, .bool t2, .int .i64 t3, .int .i64 t4, .int .i64 t5] 39 5)
      exact addtoxic_clo ⟨t0, t1, t2, t3, t4, t5⟩ hbW.size hS hx h8 o0 o1 o2 o3 o4 o5))
    have HB := Lib.hid hb
    rw [hres] at HC
    generalize l0.length = n at *
    clear hb hres h hr0 hc0
    go_enter Try.func18, Try.ntmps18
    go_wp2_with (go_at_call 44; refine HC.out.mono ?_; rintro e w2 ⟨v, rfl, hS, hb2⟩; obtain ⟨A, c, rfl⟩ := Kd.S_slice hS; have HS := Lib.hid hS; have HB2 := Lib.hid hb2; clear hS hb2)
    go_ret2
    exact ⟨_, rfl, Kd.S_lower HS.out (by simp), HB.out.trans (HB2.out.mono HB.out.size)⟩
  · cases h
def names_SetToxic.f (l : List S24) (s : ByteArray) (t0 : ByteArray) (t1 : Int) (t2 : Bool) (t3 t4 t5 : Int) : Option (List S24 × Int) := if l.length ≤ 4611686018427387904 then some (changeOf (setT ⟨t0, t1, t2, t3, t4, t5⟩) l s) else none
set_option maxRecDepth 100000 in
theorem names_SetToxic.calls (A0 : Option Addr) (c0 : Nat) (l0 : List S24) (s : ByteArray) (t0 : ByteArray) (t1 : Int) (t2 : Bool) (t3 t4 t5 : Int) (r1 : List S24) (r2 : Int) (w : World) (hr0 : Kd.C k24 w A0 l0.length l0) (hc0 : l0.length ≤ c0) (h : names_SetToxic.f l0 s t0 t1 t2 t3 t4 t5 = some (r1, r2)) :
    Calls Try.prog 55 #[.slice A0 l0.length c0, .string s, .agg #[.string t0, .int .i64 t1, .bool t2, .int .i64 t3, .int .i64 t4, .int .i64 t5]] w fun e w' => ∃ v0_ : Value, e = .returned (.tuple #[v0_, .int .i64 r2]) ∧ Kd.S k24 24 w' w.heap.size (fun _ => True) v0_ r1 ∧ Below w.heap.size w w' := by
  unfold names_SetToxic.f at h
  split at h
  · rename_i hm
    have hres := Option.some.inj h
    have hb : Below w.heap.size w (w.alloc (.cells #[.string t0, .int .i64 t1, .bool t2, .int .i64 t3, .int .i64 t4, .int .i64 t5] 39)) := (Below.refl _ w).alloc (Nat.le_refl _) _
    have HC := Lib.hid (change_any 76 #[.pointer (some ⟨w.heap.size, 0, none⟩)] (setT ⟨t0, t1, t2, t3, t4, t5⟩) A0 c0 l0 s (w.alloc (.cells #[.string t0, .int .i64 t1, .bool t2, .int .i64 t3, .int .i64 t4, .int .i64 t5] 39)) (Kd.C_below hr0 hb) hc0 hm (enters_of Try.func76 (by kernel_rfl) rfl) (by
      intro W b n cap i xs x hbW hS hx h8
      have o0 := nm_cell_at hbW (nm_box w #[.string t0, .int .i64 t1, .bool t2, .int .i64 t3, .int .i64 t4, .int .i64 t5] 39 0)
      have o1 := nm_cell_at hbW (nm_box w #[.string t0, .int .i64 t1, .bool t2, .int .i64 t3, .int .i64 t4, .int .i64 t5] 39 1)
      have o2 := nm_cell_at hbW (nm_box w #[.string t0, .int .i64 t1, .bool t2, .int .i64 t3, .int .i64 t4, .int .i64 t5] 39 2)
      have o3 := nm_cell_at hbW (nm_box w #[.string t0, .int .i64 t1, .bool t2, .int .i64 t3, .int .i64 t4, .int .i64 t5] 39 3)
      have o4 := nm_cell_at hbW (nm_box w #[.string t0, .int .i64 t1, .bool t2, .int .i64 t3, .int .i64 t4, .int .i64 t5] 39 4)
      have o5 := nm_cell_at hbW (nm_box w #[.string t0, .int .i64 t1, .bool t2, .int .i64 t3, .int .i64 t4, .int .i64 t5] 39 5)
      exact settoxic_clo ⟨t0, t1, t2, t3, t4, t5⟩ hbW.size hS hx h8 o0 o1 o2 o3 o4 o5 (by simp)))
    have HB := Lib.hid hb
    rw [hres] at HC
    generalize l0.length = n at *
    clear hb hres h hr0 hc0
    go_enter Try.func55, Try.ntmps55
    go_wp2_with (go_at_call 44; refine HC.out.mono ?_; rintro e w2 ⟨v, rfl, hS, hb2⟩; obtain ⟨A, c, rfl⟩ := Kd.S_slice hS; have HS := Lib.hid hS; have HB2 := Lib.hid hb2; clear hS hb2)
    go_ret2
    exact ⟨_, rfl, Kd.S_lower HS.out (by simp), HB.out.trans (HB2.out.mono HB.out.size)⟩
  · cases h
def names_DropToxic.f (l : List S24) (s : ByteArray) (t : ByteArray) : Option (List S24 × Int) := if l.length ≤ 4611686018427387904 then some (changeOf (dropT t) l s) else none
set_option maxRecDepth 100000 in
theorem names_DropToxic.calls (A0 : Option Addr) (c0 : Nat) (l0 : List S24) (s : ByteArray) (t : ByteArray) (r1 : List S24) (r2 : Int) (w : World) (hr0 : Kd.C k24 w A0 l0.length l0) (hc0 : l0.length ≤ c0) (h : names_DropToxic.f l0 s t = some (r1, r2)) :
    Calls Try.prog 19 #[.slice A0 l0.length c0, .string s, .string t] w fun e w' => ∃ v0_ : Value, e = .returned (.tuple #[v0_, .int .i64 r2]) ∧ Kd.S k24 24 w' w.heap.size (fun _ => True) v0_ r1 ∧ Below w.heap.size w w' := by
  unfold names_DropToxic.f at h
  split at h
  · rename_i hm
    have hres := Option.some.inj h
    have hb : Below w.heap.size w (w.alloc (.cells #[.string t] 9)) := (Below.refl _ w).alloc (Nat.le_refl _) _
    have HC := Lib.hid (change_any 46 #[.pointer (some ⟨w.heap.size, 0, none⟩)] (dropT t) A0 c0 l0 s (w.alloc (.cells #[.string t] 9)) (Kd.C_below hr0 hb) hc0 hm (enters_of Try.func46 (by kernel_rfl) rfl) (by
      intro W b n cap i xs x hbW hS hx h8
      exact droptoxic_clo t hbW.size hS hx (nm_cell_at hbW (nm_box w #[.string t] 9 0)) h8))
    have HB := Lib.hid hb
    rw [hres] at HC
    generalize l0.length = n at *
    clear hb hres h hr0 hc0
    go_enter Try.func19, Try.ntmps19
    go_wp2_with (go_at_call 44; refine HC.out.mono ?_; rintro e w2 ⟨v, rfl, hS, hb2⟩; obtain ⟨A, c, rfl⟩ := Kd.S_slice hS; have HS := Lib.hid hS; have HB2 := Lib.hid hb2; clear hS hb2)
    go_ret2
    exact ⟨_, rfl, Kd.S_lower HS.out (by simp), HB.out.trans (HB2.out.mono HB.out.size)⟩
  · cases h
def names_Switch.f (l : List S24) (s : ByteArray) (on : Bool) : Option (List S24 × Int) := if l.length ≤ 4611686018427387904 then some (changeOf (onT on) l s) else none
set_option maxRecDepth 100000 in
theorem names_Switch.calls (A0 : Option Addr) (c0 : Nat) (l0 : List S24) (s : ByteArray) (on : Bool) (r1 : List S24) (r2 : Int) (w : World) (hr0 : Kd.C k24 w A0 l0.length l0) (hc0 : l0.length ≤ c0) (h : names_Switch.f l0 s on = some (r1, r2)) :
    Calls Try.prog 22 #[.slice A0 l0.length c0, .string s, .bool on] w fun e w' => ∃ v0_ : Value, e = .returned (.tuple #[v0_, .int .i64 r2]) ∧ Kd.S k24 24 w' w.heap.size (fun _ => True) v0_ r1 ∧ Below w.heap.size w w' := by
  unfold names_Switch.f at h
  split at h
  · rename_i hm
    have hres := Option.some.inj h
    have hb : Below w.heap.size w (w.alloc (.cells #[.bool on] 4)) := (Below.refl _ w).alloc (Nat.le_refl _) _
    have HC := Lib.hid (change_any 54 #[.pointer (some ⟨w.heap.size, 0, none⟩)] (onT on) A0 c0 l0 s (w.alloc (.cells #[.bool on] 4)) (Kd.C_below hr0 hb) hc0 hm (enters_of Try.func54 (by kernel_rfl) rfl) (by
      intro W b n cap i xs x hbW hS hx h8
      exact switch_clo on hS hx (nm_cell_at hbW (nm_box w #[.bool on] 4 0))))
    have HB := Lib.hid hb
    rw [hres] at HC
    generalize l0.length = n at *
    clear hb hres h hr0 hc0
    go_enter Try.func22, Try.ntmps22
    go_wp2_with (go_at_call 44; refine HC.out.mono ?_; rintro e w2 ⟨v, rfl, hS, hb2⟩; obtain ⟨A, c, rfl⟩ := Kd.S_slice hS; have HS := Lib.hid hS; have HB2 := Lib.hid hb2; clear hS hb2)
    go_ret2
    exact ⟨_, rfl, Kd.S_lower HS.out (by simp), HB.out.trans (HB2.out.mono HB.out.size)⟩
  · cases h
end Go.Proofs.Ytlglbpjccpdloaa.Ext
set_option linter.unusedVariables false
set_option linter.unusedSimpArgs false
namespace Go.Proofs.Ytlglbpjccpdloaa.Ext
open Go.RowKit Go.Shelf Go.Proofs.Ytlglbpjccpdloaa.PNamA Go.Proofs.Ytlglbpjccpdloaa.Tox Go.Proofs.Ytlglbpjccpdloaa.ToxZ Go.Proofs.YtlglbpjccpdloaaW.PrintWords Go.Proofs.YtlglbpjccpdloaaW.PrintLast
def dropOf (l : List S24) (s : ByteArray) : List S24 × Int :=
  if rightB l then (if place (namesP l) s < 0 then (l, 142) else (l.eraseIdx (place (namesP l) s).toNat, 0)) else ([], 1)
def names_Drop.f (l : List S24) (s : ByteArray) : Option (List S24 × Int) := if l.length ≤ 4611686018427387904 then some (dropOf l s) else none
theorem change_id (l : List S24) (s : ByteArray) : changeOf idT l s = if rightB l then (if place (namesP l) s < 0 then (l, 142) else (l, 0)) else ([], 1) := by
  unfold changeOf
  split
  · split
    · rfl
    · rename_i h1 h2
      have hpl := place_lt (l := namesP l) (s := s)
      obtain ⟨k, hk⟩ : ∃ k : Nat, place (namesP l) s = (k : Int) := ⟨(place (namesP l) s).toNat, by omega⟩
      rw [hk] at hpl ⊢
      have hkl : k < l.length := by have := hpl.1; simp [namesP] at this; exact this
      have hx : l[k]? = some l[k] := List.getElem?_eq_getElem hkl
      rw [Int.toNat_natCast, List.getD_eq_getElem?_getD, hx]
      simp only [idT, Option.getD_some]
      rw [set_self hx]
  · rfl
set_option maxRecDepth 100000 in
set_option maxHeartbeats 1000000 in
theorem names_Drop.calls (A0 : Option Addr) (c0 : Nat) (l0 : List S24) (s : ByteArray) (r1 : List S24) (r2 : Int) (w : World) (hr0 : Kd.C k24 w A0 l0.length l0) (hc0 : l0.length ≤ c0) (h : names_Drop.f l0 s = some (r1, r2)) :
    Calls Try.prog 21 #[.slice A0 l0.length c0, .string s] w fun e w' => ∃ v0_ : Value, e = .returned (.tuple #[v0_, .int .i64 r2]) ∧ Kd.S k24 24 w' w.heap.size (fun _ => True) v0_ r1 ∧ Below w.heap.size w w' := by
  unfold names_Drop.f at h
  split at h
  · rename_i hm
    have hres := Option.some.inj h
    have hb : Below w.heap.size w (w.alloc (.cells #[.string s] 9)) := (Below.refl _ w).alloc (Nat.le_refl _) _
    have hcell := nm_box w #[.string s] 9 0
    have HC := Lib.hid (change_any 51 #[] idT A0 c0 l0 s (w.alloc (.cells #[.string s] 9)) (Kd.C_below hr0 hb) hc0 hm (enters_of Try.func51 (by kernel_rfl) rfl) (by
      intro W b n cap i xs x hbW hS hx h8
      exact id_clo hS hx))
    have HB := Lib.hid hb
    rw [change_id] at HC
    unfold dropOf at hres
    by_cases hright : rightB l0 = true
    · rw [if_pos hright] at HC hres
      by_cases hneg : place (namesP l0) s < 0
      · rw [if_pos hneg] at HC hres
        obtain ⟨rfl, rfl⟩ := Prod.mk.inj hres
        generalize hn : l0.length = n at *
        clear hb hres h hr0 hc0 hn hright hneg
        go_enter Try.func21, Try.ntmps21
        go_wp2_with (go_at_call 44; refine HC.out.mono ?_; rintro e w2 ⟨v, rfl, hS, hb2⟩; obtain ⟨A, c, rfl⟩ := Kd.S_slice hS; have HS := Lib.hid hS; have HB2 := Lib.hid hb2; clear hS hb2)
        go_ret2
        exact ⟨_, rfl, Kd.S_lower HS.out (by simp), HB.out.trans (HB2.out.mono HB.out.size)⟩
      · rw [if_neg hneg] at HC hres
        obtain ⟨k, hk⟩ : ∃ k : Nat, place (namesP l0) s = (k : Int) := ⟨(place (namesP l0) s).toNat, by omega⟩
        rw [hk, Int.toNat_natCast] at hres
        obtain ⟨rfl, rfl⟩ := Prod.mk.inj hres
        have hpl := place_lt (l := namesP l0) (s := s)
        rw [hk] at hpl
        have hkl : k < l0.length := by have := hpl.1; simp [namesP] at this; exact this
        obtain ⟨m, hm1⟩ : ∃ m, l0.length = m + 1 := ⟨l0.length - 1, by omega⟩
        have hm2 : m ≤ 1000000 := by have := (right_len hright).1; omega
        have HDEL := Lib.hid (fun W B b cap hB hS hc hbn => @delf_calls W B b m cap k w.heap.size l0 s hB hS hk (fun j x hj hx => only_one hright hk j x hj hx) hc hbn hm2)
        have HM := Lib.hid hm1
        have HCELL := Lib.hid hcell
        rw [hm1] at HC hr0 hc0 ⊢
        clear hb h hr0 hc0 hright hneg hk hpl hkl hm1 hcell hres
        go_enter Try.func21, Try.ntmps21
        go_wp2_with (first
          | (go_at_call 44; refine HC.out.mono ?_; rintro e w2 ⟨v, rfl, hS, hb2⟩; obtain ⟨b, c, hv, hbb, _⟩ := Kd.S_form hS (by have := HM.out; simp only; omega); simp only at hv; rw [HM.out] at hv; subst hv; have HS := Lib.hid hS; have HB2 := Lib.hid hb2; clear hS hb2)
          | (go_at_call 52; refine (HDEL.out _ (w.heap.size + 1) b c (by have := HB2.out.size; simp at this; exact this) (by have := HS.out; simp only [HM.out, World.size_alloc] at this; simpa using this) (nm_cell_at HB2.out HCELL.out) (by omega)).mono ?_; rintro e w3 ⟨rfl, hS3, hb3⟩; have HS3 := Lib.hid hS3; have HB3 := Lib.hid hb3; clear hS3 hb3)
          | fail)
        go_ret2
        exact ⟨_, rfl, Kd.S_lower HS3.out (by omega), (HB.out.trans (HB2.out.mono HB.out.size)).trans (HB3.out.mono (by omega))⟩
    · rw [if_neg hright] at HC hres
      obtain ⟨rfl, rfl⟩ := Prod.mk.inj hres
      generalize l0.length = n at *
      clear hb hres h hr0 hc0 hright
      go_enter Try.func21, Try.ntmps21
      go_wp2_with (go_at_call 44; refine HC.out.mono ?_; rintro e w2 ⟨v, rfl, hS, hb2⟩; obtain ⟨A, c, rfl⟩ := Kd.S_slice hS; have HS := Lib.hid hS; have HB2 := Lib.hid hb2; clear hS hb2)
      go_ret2
      exact ⟨_, rfl, Kd.S_lower HS.out (by simp), HB.out.trans (HB2.out.mono HB.out.size)⟩
  · cases h
end Go.Proofs.Ytlglbpjccpdloaa.Ext
set_option linter.unusedVariables false
set_option linter.unusedSimpArgs false
namespace Go.Proofs.Ytlglbpjccpdloaa.Ext
open Go.RowKit Go.Proofs.Ytlglbpjccpdloaa.PNamA Go.Proofs.YtlglbpjccpdloaaW.PrintWords Go.Proofs.YtlglbpjccpdloaaW.PrintLast
def eqT (x y : S39) : Bool := decide (x.f0 = y.f0) && (x.f1 == y.f1 && (x.f2 == y.f2 && (x.f3 == y.f3 && (x.f4 == y.f4 && x.f5 == y.f5))))
theorem eqT_iff (x y : S39) : eqT x y = true ↔ x = y := by
  cases x; cases y
  simp [eqT]
def eqTL : List S39 → List S39 → Bool
  | [], [] => true
  | x :: r, y :: s => eqT x y && eqTL r s
  | _, _ => false
theorem eqTL_iff : ∀ (a b : List S39), eqTL a b = true ↔ a = b
  | [], [] => by simp [eqTL]
  | [], _ :: _ => by simp [eqTL]
  | _ :: _, [] => by simp [eqTL]
  | x :: r, y :: s => by simp [eqTL, eqT_iff, eqTL_iff r s]
def eqP (x y : S24) : Bool := decide (x.f0 = y.f0) && (x.f1 == y.f1 && (x.f2 == y.f2 && eqTL x.f3 y.f3))
theorem eqP_iff (x y : S24) : eqP x y = true ↔ x = y := by
  cases x; cases y
  simp [eqP, eqTL_iff]
def eqPL : List S24 → List S24 → Bool
  | [], [] => true
  | x :: r, y :: s => eqP x y && eqPL r s
  | _, _ => false
theorem eqPL_iff : ∀ (a b : List S24), eqPL a b = true ↔ a = b
  | [], [] => by simp [eqPL]
  | [], _ :: _ => by simp [eqPL]
  | _ :: _, [] => by simp [eqPL]
  | x :: r, y :: s => by simp [eqPL, eqP_iff, eqPL_iff r s]
theorem eqTL_len {a b : List S39} (h : a.length ≠ b.length) : eqTL a b = false := by
  cases hb : eqTL a b with
  | false => rfl
  | true => exact absurd (by rw [(eqTL_iff a b).1 hb]) h
theorem eqPL_len {a b : List S24} (h : a.length ≠ b.length) : eqPL a b = false := by
  cases hb : eqPL a b with
  | false => rfl
  | true => exact absurd (by rw [(eqPL_iff a b).1 hb]) h
def names_Same.f (a b : List S24) : Option Bool := some (eqPL a b)
theorem eqTox_l0 (a b : List S39) (hab : a.length = b.length) (hm : a.length ≤ 9223372036854775807) : ∀ (k i : Nat), a.length - i < k → i ≤ a.length →
    slices_Equal_api_Toxic_api_Toxic.l0 k a b (a.length : Int) (i : Int) = some (eqTL (a.drop i) (b.drop i)) := by
  intro k
  induction k with
  | zero => intro i h; omega
  | succ k ih =>
    intro i h hi
    unfold slices_Equal_api_Toxic_api_Toxic.l0
    by_cases hl : i < a.length
    · have hlb : i < b.length := by omega
      rw [if_pos (by omega), if_pos (by omega), if_pos (by omega), if_pos (by omega)]
      have ha : rd_T39 a (i : Int) = a[i] := by simp [rd_T39, hl]
      have hb : rd_T39 b (i : Int) = b[i] := by simp [rd_T39, hlb]
      rw [ha, hb, List.drop_eq_getElem_cons hl, List.drop_eq_getElem_cons hlb, eqTL]
      by_cases he : eqT a[i] b[i] = true
      · have he' := (eqT_iff _ _).1 he
        rw [if_neg (by rw [he']; simp), he, Bool.true_and, show wrap64 ((i : Int) + 1) = ((i + 1 : Nat) : Int) by unfold wrap64; omega]
        exact ih (i + 1) (by omega) (by omega)
      · have h2 : eqT a[i] b[i] = false := by simpa using he
        rw [if_pos ?_, h2, Bool.false_and]
        · unfold eqT at h2
          simp only [Bool.and_eq_false_iff, decide_eq_false_iff_not, beq_eq_false_iff_ne] at h2
          simp only [Bool.or_eq_true, Bool.not_eq_true', beq_eq_false_iff_ne]
          rcases h2 with h2 | h2 | h2 | h2 | h2 | h2
          · exact .inl (fun h3 => h2 ((nm_toList_eq_iff _ _).1 h3))
          · exact .inr (.inl h2)
          · exact .inr (.inr (.inl h2))
          · exact .inr (.inr (.inr (.inl h2)))
          · exact .inr (.inr (.inr (.inr (.inl h2))))
          · exact .inr (.inr (.inr (.inr (.inr h2))))
    · have hi2 : i = a.length := by omega
      rw [if_neg (by omega), List.drop_eq_nil_of_le (by omega), List.drop_eq_nil_of_le (by omega)]
      rfl
theorem eqTox_is (a b : List S39) (hm : a.length ≤ 9223372036854775807) : slices_Equal_api_Toxic_api_Toxic.f (a.length + 1) a b = some (eqTL a b) := by
  unfold slices_Equal_api_Toxic_api_Toxic.f
  by_cases h : a.length = b.length
  · rw [if_pos (by omega)]
    have := eqTox_l0 a b h hm (a.length + 1) 0 (by omega) (by omega)
    simpa using this
  · rw [if_neg (by omega), eqTL_len h]
set_option maxRecDepth 100000 in
theorem same1_calls (x y : S24) (A B : Option Addr) (c d : Nat) (w : World) (hx : Kd.C k39 w A x.f3.length x.f3) (hxc : x.f3.length ≤ c) (hy : Kd.C k39 w B y.f3.length y.f3) (hyc : y.f3.length ≤ d) :
    Calls Try.prog 42 #[.agg #[.string x.f0, .bool x.f1, .int .i64 x.f2, .slice A x.f3.length c], .agg #[.string y.f0, .bool y.f1, .int .i64 y.f2, .slice B y.f3.length d]] w fun e w' => e = .returned (.bool (eqP x y)) ∧ Below w.heap.size w w' := by
  have hq0 : (x.f0.toList == y.f0.toList) = decide (x.f0 = y.f0) := by
    rw [Bool.eq_iff_iff, beq_iff_eq, decide_eq_true_eq]
    exact nm_toList_eq_iff _ _
  have HE := Lib.hid (fun W (hb : Below w.heap.size w W) => slices_Equal_api_Toxic_api_Toxic.calls _ A c x.f3 B d y.f3 (eqTL x.f3 y.f3) W (Kd.C_below hx hb) hxc (Kd.C_below hy hb) hyc (eqTox_is _ _ hx.2.1))
  have HB := Lib.hid (((Below.refl w.heap.size w).alloc (Nat.le_refl _) (.cells #[.string x.f0, .bool x.f1, .int .i64 x.f2, .slice A x.f3.length c] 24)).alloc (by simp) (.cells #[.string y.f0, .bool y.f1, .int .i64 y.f2, .slice B y.f3.length d] 24))
  unfold eqP
  generalize eqTL x.f3 y.f3 = t at *
  generalize decide (x.f0 = y.f0) = b0 at *
  obtain ⟨b1, hq1⟩ : ∃ b, (x.f1 == y.f1) = b := ⟨_, rfl⟩
  obtain ⟨b2, hq2⟩ : ∃ b, (x.f2 == y.f2) = b := ⟨_, rfl⟩
  rw [hq1, hq2]
  generalize x.f3.length = nx at *
  generalize y.f3.length = ny at *
  clear hx hxc hy hyc
  cases b0
  · go_enter Try.func42, Try.ntmps42
    go_wp2_with fail
    go_ret
    exact ⟨rfl, HB.out⟩
  · cases b1
    · go_enter Try.func42, Try.ntmps42
      go_wp2_with fail
      go_ret
      exact ⟨rfl, HB.out⟩
    · cases b2
      · go_enter Try.func42, Try.ntmps42
        go_wp2_with fail
        go_ret
        exact ⟨rfl, HB.out⟩
      · go_enter Try.func42, Try.ntmps42
        go_wp2_with (go_at_call 43; refine (HE.out _ HB.out).mono ?_; rintro e w2 ⟨rfl, hd⟩; have HD := Lib.hid hd; clear hd)
        go_ret
        exact ⟨rfl, HB.out.trans (HD.out.below.mono HB.out.size)⟩
set_option maxRecDepth 100000 in
set_option maxHeartbeats 1000000 in
theorem eqf_calls (A0 : Option Addr) (c0 : Nat) (l0 : List S24) (A1 : Option Addr) (c1 : Nat) (l1 : List S24) (w : World) (hr0 : Kd.C k24 w A0 l0.length l0) (hr1 : Kd.C k24 w A1 l1.length l1) :
    Calls Try.prog 41 #[.slice A0 l0.length c0, .slice A1 l1.length c1, .func (.func 42) #[] #[]] w fun e w' => e = .returned (.bool (eqPL l0 l1)) ∧ Below w.heap.size w w' := by
  have hm : l0.length ≤ 9223372036854775807 := hr0.2.1
  have hm1 : l1.length ≤ 9223372036854775807 := hr1.2.1
  by_cases hlen : l0.length = l1.length
  · have HR0 := Lib.hid hr0
    have HR1 := Lib.hid hr1
    have HLL := Lib.hid hlen
    rw [← hlen] at HR1 ⊢
    obtain ⟨n, hn⟩ : ∃ n, l0.length = n := ⟨_, rfl⟩
    have HN := Lib.hid hn
    rw [hn] at hm HR0 HR1 ⊢
    clear hr0 hr1 hlen hn hm1
    have q1 : ((n : Int) != (n : Int)) = false := by simp
    go_enter Try.func41, Try.ntmps41
    go_wp2_with fail
    go_loopg [7, 8, 9, 17] n (fun gg _ _ _ s17 wr => ∃ kk : Nat, kk ≤ n ∧ n - kk ≤ gg ∧ s17 = .int .i64 kk ∧ Hid (Below w.heap.size w wr) ∧ Hid (eqPL l0 l1 = eqPL (l0.drop kk) (l1.drop kk)))
    case atStart => exact ⟨0, Nat.zero_le _, by omega, rfl, Lib.hid (Below.refl _ w), Lib.hid rfl⟩
    case round =>
      obtain ⟨kk, hkk, hg, rfl, BW, HP⟩ := hrel
      by_cases hlt : kk < n
      · have hl0 : kk < l0.length := by rw [HN.out]; exact hlt
        have hl1 : kk < l1.length := by rw [← HLL.out, HN.out]; exact hlt
        have hRa := Kd.C_below HR0.out BW.out
        have hRb := Kd.C_below HR1.out BW.out
        have hrd0 : rd_T24 l0 (kk : Int) = l0[kk] := by simp [rd_T24, hl0]
        have hrd1 : rd_T24 l1 (kk : Int) = l1[kk] := by simp [rd_T24, hl1]
        obtain ⟨ad, A3, c3, rfl, x0, x1, x2, x3, g1, g2⟩ := at_T24 hRa (kk : Int) (by omega) (by omega)
        obtain ⟨bd, B3, d3, rfl, y0, y1, y2, y3, g3, g4⟩ := at_T24 hRb (kk : Int) (by omega) (by omega)
        rw [hrd0] at x0 x1 x2 x3 g1 g2
        rw [hrd1] at y0 y1 y2 y3 g3 g4
        simp only [Int.toNat_natCast] at x0 x1 x2 x3 y0 y1 y2 y3
        have hx := HP.out
        rw [List.drop_eq_getElem_cons hl0, List.drop_eq_getElem_cons hl1, eqPL] at hx
        have HX := Lib.hid hx
        have HC := Lib.hid (fun W (hb : Below wr.heap.size wr W) => same1_calls l0[kk] l1[kk] A3 B3 c3 d3 W (Kd.C_below g2 hb) g1 (Kd.C_below g4 hb) g3)
        have HB2 := Lib.hid (((Below.refl wr.heap.size wr).alloc (Nat.le_refl _) (.cells #[.string l0[kk].f0, .bool l0[kk].f1, .int .i64 l0[kk].f2, .slice A3 l0[kk].f3.length c3] 24)).alloc (by simp) (.cells #[.string l1[kk].f0, .bool l1[kk].f1, .int .i64 l1[kk].f2, .slice B3 l1[kk].f3.length d3] 24))
        have y0' := nm_cell_at ((Below.refl wr.heap.size wr).alloc (Nat.le_refl _) (.cells #[.string l0[kk].f0, .bool l0[kk].f1, .int .i64 l0[kk].f2, .slice A3 l0[kk].f3.length c3] 24)) y0
        have y1' := nm_cell_at ((Below.refl wr.heap.size wr).alloc (Nat.le_refl _) (.cells #[.string l0[kk].f0, .bool l0[kk].f1, .int .i64 l0[kk].f2, .slice A3 l0[kk].f3.length c3] 24)) y1
        have y2' := nm_cell_at ((Below.refl wr.heap.size wr).alloc (Nat.le_refl _) (.cells #[.string l0[kk].f0, .bool l0[kk].f1, .int .i64 l0[kk].f2, .slice A3 l0[kk].f3.length c3] 24)) y2
        have y3' := nm_cell_at ((Below.refl wr.heap.size wr).alloc (Nat.le_refl _) (.cells #[.string l0[kk].f0, .bool l0[kk].f1, .int .i64 l0[kk].f2, .slice A3 l0[kk].f3.length c3] 24)) y3
        clear hRa hRb hrd0 hrd1 hx g1 g2 g3 g4 y0 y1 y2 y3
        have hi0 : (0 : Int) ≤ (kk : Int) := Int.natCast_nonneg _
        have hi1 : (kk : Int) < (n : Int) := by omega
        generalize l0[kk] = x at *
        generalize l1[kk] = y at *
        generalize hb : eqP x y = b at *
        have HQ := Lib.hid hb
        clear hb
        cases b
        · go_wp2_with (go_at_call 42; refine (HC.out _ HB2.out).mono ?_; rintro e w1 ⟨rfl, hb'⟩)
          go_ret
          exact ⟨by rw [HX.out]; rfl, BW.out.trans ((HB2.out.trans (hb'.mono HB2.out.size)).mono BW.out.size)⟩
        · go_wp2_with (go_at_call 42; refine (HC.out _ HB2.out).mono ?_; rintro e w1 ⟨rfl, hb'⟩)
          go_roundg (n - (kk + 1))
          case measure => omega
          case rel => exact ⟨kk + 1, by omega, by omega, by go_num, Lib.hid (BW.out.trans ((HB2.out.trans (hb'.mono HB2.out.size)).mono BW.out.size)), Lib.hid (by rw [HX.out, Bool.true_and])⟩
      · have hk : kk = n := by omega
        subst hk
        have hx := HP.out
        rw [List.drop_eq_nil_of_le (by rw [HN.out]; exact Nat.le_refl _), List.drop_eq_nil_of_le (by rw [← HLL.out, HN.out]; exact Nat.le_refl _)] at hx
        have HY := Lib.hid hx
        clear hx
        go_wp2_with fail
        go_ret
        exact ⟨by rw [HY.out]; rfl, BW.out⟩
  · have hres := eqPL_len hlen
    rw [hres]
    have q1 : ((l0.length : Int) != (l1.length : Int)) = true := by simp; omega
    have q2 : (l0.length != l1.length) = true := by simpa using hlen
    generalize l0.length = n at *
    generalize l1.length = m at *
    clear hr0 hr1 hres hlen
    go_enter Try.func41, Try.ntmps41
    go_wp2_with fail
    go_ret
    exact ⟨rfl, Below.refl _ _⟩
theorem names_Same.calls (A0 : Option Addr) (c0 : Nat) (l0 : List S24) (A1 : Option Addr) (c1 : Nat) (l1 : List S24) (r : Bool) (w : World) (hr0 : Kd.C k24 w A0 l0.length l0) (hc0 : l0.length ≤ c0) (hr1 : Kd.C k24 w A1 l1.length l1) (hc1 : l1.length ≤ c1) (h : names_Same.f l0 l1 = some r) :
    Calls Try.prog 15 #[.slice A0 l0.length c0, .slice A1 l1.length c1] w fun e w' => e = .returned (.bool r) ∧ Below w.heap.size w w' := by
  have HC := Lib.hid (eqf_calls A0 c0 l0 A1 c1 l1 w hr0 hr1)
  rw [Option.some.inj h] at HC
  generalize l0.length = n at *
  generalize l1.length = m at *
  clear h hr0 hr1 hc0 hc1
  go_enter Try.func15, Try.ntmps15
  go_wp2_with (go_at_call 41; refine HC.out.mono ?_; rintro e w1 ⟨rfl, hb'⟩)
  go_ret
  exact ⟨rfl, hb'⟩
end Go.Proofs.Ytlglbpjccpdloaa.Ext
namespace Go.Proofs.Ytlglbpjccpdloaa.PNamA
open Go.Proofs.Ytlglbpjccpdloaa.Ext Go.Proofs.Ytlglbpjccpdloaa.ToxZ Go.RowKit Go.Proofs.YtlglbpjccpdloaaW.PrintWords Go.Proofs.YtlglbpjccpdloaaW.PrintLast Go.Proofs.YtlglbpjccpdloaaW.PrintMore
attribute [local go_sem] max2_int min2_int max_two min_two max_three min_three max_four min_four   -- for this text's walks alone
set_option linter.unusedVariables false
set_option linter.unusedSimpArgs false
private theorem pw_size_mk (l : Array UInt8) : (⟨l⟩ : ByteArray).size = l.size := rfl
mutual
def names_Lines.j0 : Nat → ByteArray → ByteArray → Bool → Int → List (S39) → Option (List ByteArray)
 | 0, _, _, _, _, _ => none
 | k + 1, x3, x121000, x121001, x121002, x121003 => if x121000.size + 1 ≤ 9223372036854775807 then (if (x121000 ++ (⟨#[32]⟩ : ByteArray)).size + x3.size ≤ 9223372036854775807 then (if ((x121000 ++ (⟨#[32]⟩ : ByteArray)) ++ x3).size + 1 ≤ 9223372036854775807 then ((tick_Text.f x121002).bind fun t122 => (if (((x121000 ++ (⟨#[32]⟩ : ByteArray)) ++ x3) ++ (⟨#[32]⟩ : ByteArray)).size + t122.size ≤ 9223372036854775807 then (if ((((x121000 ++ (⟨#[32]⟩ : ByteArray)) ++ x3) ++ (⟨#[32]⟩ : ByteArray)) ++ t122).size + 1 ≤ 9223372036854775807 then ((tick_Text.f (x121003.length : Int)).bind fun t123 => (if (((((x121000 ++ (⟨#[32]⟩ : ByteArray)) ++ x3) ++ (⟨#[32]⟩ : ByteArray)) ++ t122) ++ (⟨#[32]⟩ : ByteArray)).size + t123.size ≤ 9223372036854775807 then (names_Lines.l0 k (([(((((x121000 ++ (⟨#[32]⟩ : ByteArray)) ++ x3) ++ (⟨#[32]⟩ : ByteArray)) ++ t122) ++ (⟨#[32]⟩ : ByteArray)) ++ t123] : List ByteArray)) x121003 (x121003.length : Int) 0) else (none))) else (none)) else (none))) else (none)) else (none)) else (none)
def names_Lines.l0 : Nat → List ByteArray → List (S39) → Int → Int → Option (List ByteArray)
 | 0, _, _, _, _ => none
 | k + 1, x4, x30, x31, x32 => if x32 < x31 then (if 0 ≤ x32 then (if x32 < (x30.length : Int) then ((toxic_Text.f ((rd_T39 x30 x32).f0) ((rd_T39 x30 x32).f1) ((rd_T39 x30 x32).f2) ((rd_T39 x30 x32).f3) ((rd_T39 x30 x32).f4) ((rd_T39 x30 x32).f5)).bind fun t129 => (if x4.length < 8796093022208 then (names_Lines.l0 k (x4 ++ [t129]) x30 x31 (wrap64 (x32 + 1))) else (none))) else (none)) else (none)) else (some x4)
end
def names_Lines.f (k : Nat) (a0_0 : ByteArray) (a0_1 : Bool) (a0_2 : Int) (l0_3 : List (S39)) : Option (List ByteArray) := (names_Check.f k a0_0 a0_1 a0_2 l0_3).bind fun t121 => (if t121 = 0 then (if a0_1 = true then (names_Lines.j0 k (⟨#[111, 110]⟩ : ByteArray) a0_0 a0_1 a0_2 l0_3) else (names_Lines.j0 k (⟨#[111, 102, 102]⟩ : ByteArray) a0_0 a0_1 a0_2 l0_3)) else (some ([] : List ByteArray)))
theorem names_Lines.mono_l : ∀ k, (∀ y0 y1 y2 y3 y4, LeO (names_Lines.j0 k y0 y1 y2 y3 y4) (names_Lines.j0 (k + 1) y0 y1 y2 y3 y4)) ∧ (∀ y0 y1 y2 y3, LeO (names_Lines.l0 k y0 y1 y2 y3) (names_Lines.l0 (k + 1) y0 y1 y2 y3))
 | 0 => ⟨fun _ _ _ _ _ r h => by simp [names_Lines.j0] at h, fun _ _ _ _ r h => by simp [names_Lines.l0] at h⟩
 | k + 1 => by
  obtain ⟨ih0, ih1⟩ := names_Lines.mono_l k
  refine ⟨?_, ?_⟩
  ·intro y0 y1 y2 y3 y4
   unfold names_Lines.j0
   repeat' first
   | (with_reducible exact ih0 _ _ _ _ _)
   | (with_reducible exact ih1 _ _ _ _)
   | (with_reducible exact names_Check.mono _ _ _ _ _)
   | (with_reducible exact LeO.refl _)
   | (with_reducible exact LeO.none _)
   | (with_reducible refine LeO.ite ?_ ?_)
   | (with_reducible refine LeO.bind ?_ (fun _ => ?_))
   | exact ih0 _ _ _ _ _
   | exact ih1 _ _ _ _
   | exact names_Check.mono _ _ _ _ _
   | exact LeO.none _
   | refine LeO.ite ?_ ?_
   | refine LeO.bind ?_ (fun _ => ?_)
  ·intro y0 y1 y2 y3
   unfold names_Lines.l0
   repeat' first
   | (with_reducible exact ih0 _ _ _ _ _)
   | (with_reducible exact ih1 _ _ _ _)
   | (with_reducible exact names_Check.mono _ _ _ _ _)
   | (with_reducible exact LeO.refl _)
   | (with_reducible exact LeO.none _)
   | (with_reducible refine LeO.ite ?_ ?_)
   | (with_reducible refine LeO.bind ?_ (fun _ => ?_))
   | exact ih0 _ _ _ _ _
   | exact ih1 _ _ _ _
   | exact names_Check.mono _ _ _ _ _
   | exact LeO.none _
   | refine LeO.ite ?_ ?_
   | refine LeO.bind ?_ (fun _ => ?_)
theorem names_Lines.mono : ∀ a0 a1 a2 a3 k, LeO (names_Lines.f k a0 a1 a2 a3) (names_Lines.f (k + 1) a0 a1 a2 a3) := by
 intro a0 a1 a2 a3 k
 obtain ⟨ih0, ih1⟩ := names_Lines.mono_l k
 unfold names_Lines.f
 repeat' first
   | (with_reducible exact ih0 _ _ _ _ _)
   | (with_reducible exact ih1 _ _ _ _)
   | (with_reducible exact names_Check.mono _ _ _ _ _)
   | (with_reducible exact LeO.refl _)
   | (with_reducible exact LeO.none _)
   | (with_reducible refine LeO.ite ?_ ?_)
   | (with_reducible refine LeO.bind ?_ (fun _ => ?_))
   | exact ih0 _ _ _ _ _
   | exact ih1 _ _ _ _
   | exact names_Check.mono _ _ _ _ _
   | exact LeO.none _
   | refine LeO.ite ?_ ?_
   | refine LeO.bind ?_ (fun _ => ?_)
def names_Lines.T6 : Bool × List (List Nat × List Nat) := (true, [([], []), ([0], [0]), ([1], [1]), ([], []), ([2, 3], [2, 3]), ([4], [4]), ([], []), ([6], [6]), ([7], [7]), ([5, 8], [5, 8]), ([9], [9]), ([], []), ([11], [11]), ([12], [12]), ([13, 8], [13]), ([10, 14], [10, 14]), ([15], [15]), ([16, 14, 0, 1, 2, 3, 4, 5, 6, 7, 8, 9, 10, 11, 12, 13, 14, 15, 16], [16])])
def names_Lines.B6 : List Nat := [0, 1, 3, 0, 15, 31, 0, 64, 192, 511, 1023, 0, 2048, 6144, 14784, 32767, 65535, 131071]
theorem names_Lines.tab6 : rtab .any (opsOf Try.f9 6) = names_Lines.T6 := by kernel_rfl
theorem names_Lines.bits6 : waitsOk names_Lines.T6.2 names_Lines.B6 = true := by kernel_rfl
set_option maxHeartbeats 8000000 in
set_option maxRecDepth 100000 in
theorem names_Lines.calls (k : Nat) (a0_0 : ByteArray) (a0_1 : Bool) (a0_2 : Int) (A0_3 : Option Addr) (c0_3 : Nat) (l0_3 : List (S39)) (r : List ByteArray) (w : World) (hr0_3 : Kd.C k39 w A0_3 l0_3.length l0_3) (hc0_3 : l0_3.length ≤ c0_3) (h : names_Lines.f k a0_0 a0_1 a0_2 l0_3 = some r) :
  Calls Try.prog 9 #[.agg #[.string a0_0, .bool a0_1, .int .i64 a0_2, .slice A0_3 l0_3.length c0_3]] w fun e w' => ∃ v0_ : Value, e = .returned (v0_) ∧ Kd.R Kd.string 9 w' w.heap.size (fun _ => True) v0_ r ∧ Below w.heap.size w w' := by
 have hu24 := Try.underlying24
 have hu39 := Try.underlying39
 have HR0_3 := Aside0.mk hr0_3
 have HC0_3 := Aside0.mk hc0_3
 clear hr0_3 hc0_3
 have HB := Aside0.mk (Below.refl w.heap.size w)
 have H : ((names_Check.f k a0_0 a0_1 a0_2 l0_3).bind fun t121 => (if t121 = 0 then (if a0_1 = true then (names_Lines.j0 k (⟨#[111, 110]⟩ : ByteArray) a0_0 a0_1 a0_2 l0_3) else (names_Lines.j0 k (⟨#[111, 102, 102]⟩ : ByteArray) a0_0 a0_1 a0_2 l0_3)) else (some ([] : List ByteArray)))) = some r := h
 clear h
 replace H := Option.bind_eq_some_iff.mp H
 obtain ⟨t121, A20, H⟩ := H
 replace H : (if t121 = 0 then (if a0_1 = true then (names_Lines.j0 k (⟨#[111, 110]⟩ : ByteArray) a0_0 a0_1 a0_2 l0_3) else (names_Lines.j0 k (⟨#[111, 102, 102]⟩ : ByteArray) a0_0 a0_1 a0_2 l0_3)) else (some ([] : List ByteArray))) = some r := H
 have A2 := Aside0.mk A20
 clear A20
 by_cases c3 : t121 = 0
 ·rw [if_pos c3] at H
  have c3b0 : (t121 == 0) = true := beq_iff_eq.mpr c3
  have c3b1 : (t121 != 0) = false := bne_eq_false_iff_eq.mpr c3
  clear c3
  have HC4 := Aside0.mk H
  clear H
  go_enter Try.func9, Try.ntmps9
  go_upto_if 11 with (first | ((with_reducible refine gate_dst (N := 1) rfl ?_); refine box_event ?hg (N := 1) ?hd (cs := #[.string a0_0, .bool a0_1, .int .i64 a0_2, .slice A0_3 l0_3.length c0_3]) (t := 24) ?hr ?_; (case hd => rfl); (case hg => rfl); (case hr => first | (go_simp; done) | (go_simp; rfl)); intro gb120 hg w5 hbox hb; have n0_ := Aside0.mk (below_step (by repeat (first | (with_reducible first | exact HB.out | apply below_alloc | apply pw_below_drewN | apply below_drew1) | exact HB.out)) hb); have n1_ := Aside0.mk (hbox); have n2_ := Aside0.mk ((by rw [hg]; exact (below_size (by repeat (first | (with_reducible first | exact HB.out | apply below_alloc | apply pw_below_drewN | apply below_drew1) | exact HB.out))) : w.heap.size ≤ gb120)); have n3_ := Aside0.mk ((by rw [hg]; exact (below_size (by repeat (first | (with_reducible first | exact HB.out | apply below_alloc | apply pw_below_drewN | apply below_drew1) | exact HB.out))) : w.heap.size ≤ gb120)); clear HB; have HB := n0_; have BK120 := n1_; have GW120 := n2_; have GE120 := n3_; clear n0_ n1_ n2_ n3_; clear hb hbox hg; have hcz6_0 : w5.cell? ⟨gb120, 0, none⟩ = some (.string a0_0) := (blk_cell BK120.out 0).trans rfl; have hcz6_1 : w5.cell? ⟨gb120, 1, none⟩ = some (.bool a0_1) := (blk_cell BK120.out 1).trans rfl; have hcz6_2 : w5.cell? ⟨gb120, 2, none⟩ = some (.int .i64 a0_2) := (blk_cell BK120.out 2).trans rfl; have hcz6_3 : w5.cell? ⟨gb120, 3, none⟩ = some (.slice A0_3 l0_3.length c0_3) := (blk_cell BK120.out 3).trans rfl; have hfz6_0 := blk_frozen BK120.out 0; have hfz6_1 := blk_frozen BK120.out 1; have hfz6_2 := blk_frozen BK120.out 2; have hfz6_3 := blk_frozen BK120.out 3) | ((with_reducible refine gate_callee (f := 11) rfl ?_); refine goesL_ (some 8) rfl rfl Try.func11 (by kernel_rfl) rfl #[.agg #[.string a0_0, .bool a0_1, .int .i64 a0_2, .slice A0_3 l0_3.length c0_3]] rfl (by (try simp only [List.map_toArray, List.map_cons, List.map_nil]); first | done | rfl | (simp only [List.length_drop, List.length_take]; rfl)) ?_; (with_reducible refine (names_Check.calls k a0_0 a0_1 a0_2 _ _ l0_3 t121 _ ?side1 ?side2 A2.out).mono ?_); (case side1 => repeat (first | exact (Kd.C_below HR0_3.out HB.out) | (with_reducible refine Kd.C_alloc ?_ _) | (with_reducible refine Kd.C_drewN ?_ _) | (with_reducible refine Kd.C_drew ?_))); (case side2 => exact HC0_3.out); rintro e w7 ⟨rfl, hb⟩; refine ⟨_, rfl, ?_⟩; have n0_ := Aside0.mk (blk_below (g := gb120) (o := .cells #[.string a0_0, .bool a0_1, .int .i64 a0_2, .slice A0_3 l0_3.length c0_3] 24 (0, 0)) (by (with_reducible repeat (first | refine blk_drewN ?_ _ | refine blk_drew ?_ | refine blk_alloc ?_ _)); exact BK120.out) hb); have n1_ := Aside0.mk (below_step (by repeat (first | (with_reducible first | exact HB.out | apply below_alloc | apply pw_below_drewN | apply below_drew1 | refine below_set ?_ GE120.out) | exact HB.out)) hb); clear BK120; clear HB; have BK120 := n0_; have HB := n1_; clear n0_ n1_; (try clear hb); (try clear hb2); (try clear hk); (try clear hi); have hcz8_0 : w7.cell? ⟨gb120, 0, none⟩ = some (.string a0_0) := (blk_cell BK120.out 0).trans rfl; have hcz8_1 : w7.cell? ⟨gb120, 1, none⟩ = some (.bool a0_1) := (blk_cell BK120.out 1).trans rfl; have hcz8_2 : w7.cell? ⟨gb120, 2, none⟩ = some (.int .i64 a0_2) := (blk_cell BK120.out 2).trans rfl; have hcz8_3 : w7.cell? ⟨gb120, 3, none⟩ = some (.slice A0_3 l0_3.length c0_3) := (blk_cell BK120.out 3).trans rfl; have hfz8_0 := blk_frozen BK120.out 0; have hfz8_1 := blk_frozen BK120.out 1; have hfz8_2 := blk_frozen BK120.out 2; have hfz8_3 := blk_frozen BK120.out 3))
  (try simp only [Act.put, List.setIfInBounds_toArray, List.set_cons_zero, List.set_cons_succ])
  go_cut [3] (fun v3 wc => ∃ (kq : Nat) (x3_3 : ByteArray), v3 = .string x3_3 ∧ Aside0 (names_Lines.j0 kq x3_3 a0_0 a0_1 a0_2 l0_3 = some r) ∧ Aside0 (kq ≤ k) ∧ Aside0 (wc.heap[gb120]? = some (.cells #[.string a0_0, .bool a0_1, .int .i64 a0_2, (.slice A0_3 l0_3.length c0_3)] 24 (0, 0))) ∧ Aside0 (Below w.heap.size w wc))
  case first =>
   have H := HC4.out
   clear HC4
   by_cases c9 : a0_1 = true
   ·subst c9
    have H1 : (names_Lines.j0 k (⟨#[111, 110]⟩ : ByteArray) a0_0 true a0_2 l0_3) = some r := by rw [if_pos rfl] at H; exact H
    clear H
    have H := H1
    clear H1
    have H' := Aside0.mk H
    clear H
    go_wp2
    go_meet
    case rel => exact ⟨_, ((⟨#[111, 110]⟩ : ByteArray)), (by first | rfl | (simp; done) | (simp [*]; done)), H', ⟨by first | omega | exact Nat.le_refl _⟩, ⟨by (with_reducible repeat (first | refine blk_drewN ?_ _ | refine blk_drew ?_ | refine blk_alloc ?_ _)); exact BK120.out⟩, ⟨by repeat (first | (with_reducible first | exact HB.out | apply below_alloc | apply pw_below_drewN | apply below_drew1 | refine below_set ?_ GE120.out) | exact HB.out)⟩⟩
   ·replace c9 := Bool.eq_false_iff.mpr c9
    subst c9
    have H1 : (names_Lines.j0 k (⟨#[111, 102, 102]⟩ : ByteArray) a0_0 false a0_2 l0_3) = some r := by rw [if_neg (show ¬ (false = true) by decide)] at H; exact H
    clear H
    have H := H1
    clear H1
    have H' := Aside0.mk H
    clear H
    go_wp2
    go_meet
    case rel => exact ⟨_, ((⟨#[111, 102, 102]⟩ : ByteArray)), (by first | rfl | (simp; done) | (simp [*]; done)), H', ⟨by first | omega | exact Nat.le_refl _⟩, ⟨by (with_reducible repeat (first | refine blk_drewN ?_ _ | refine blk_drew ?_ | refine blk_alloc ?_ _)); exact BK120.out⟩, ⟨by repeat (first | (with_reducible first | exact HB.out | apply below_alloc | apply pw_below_drewN | apply below_drew1 | refine below_set ?_ GE120.out) | exact HB.out)⟩⟩
  case rest =>
   clear HC4
   try clear c1
   try clear p2
   try clear c3
   try clear c3b0
   try clear c3b1
   try clear c9
   try clear hcz6_0
   try clear hcz6_1
   try clear hcz6_2
   try clear hcz6_3
   try clear hcz8_0
   try clear hcz8_1
   try clear hcz8_2
   try clear hcz8_3
   try clear hfz6_0
   try clear hfz6_1
   try clear hfz6_2
   try clear hfz6_3
   try clear hfz8_0
   try clear hfz8_1
   try clear hfz8_2
   try clear hfz8_3
   obtain ⟨kq, x3_3, rfl, HA, HJ3, BK120, HB⟩ := hcut
   cases kq with
   | zero => exact absurd HA.out (by simp [names_Lines.j0])
   | succ kj3 =>
    have H := HA.out
    clear HA
    simp only [names_Lines.j0] at H
    by_cases c10 : a0_0.size + 1 ≤ 9223372036854775807
    ·rw [if_pos c10] at H
     have c10b0 := eq_true c10
     have c10b1 : decide (a0_0.size + 1 ≤ 9223372036854775807) = true := decide_eq_true c10
     try have c10b2 : (9223372036854775807 < a0_0.size + 1) = False := eq_false (Nat.not_lt.2 c10)
     by_cases c11 : (a0_0 ++ (⟨#[32]⟩ : ByteArray)).size + x3_3.size ≤ 9223372036854775807
     ·rw [if_pos c11] at H
      have c11b0 := eq_true c11
      have c11b1 : decide ((a0_0 ++ (⟨#[32]⟩ : ByteArray)).size + x3_3.size ≤ 9223372036854775807) = true := decide_eq_true c11
      try have c11b2 : (9223372036854775807 < (a0_0 ++ (⟨#[32]⟩ : ByteArray)).size + x3_3.size) = False := eq_false (Nat.not_lt.2 c11)
      try have c11b3 := c11b2
      try simp only [ByteArray.size_append, pw_size_mk, List.size_toArray, List.length_cons, List.length_nil, Nat.zero_add] at c11b3
      by_cases c12 : ((a0_0 ++ (⟨#[32]⟩ : ByteArray)) ++ x3_3).size + 1 ≤ 9223372036854775807
      ·rw [if_pos c12] at H
       have c12b0 := eq_true c12
       have c12b1 : decide (((a0_0 ++ (⟨#[32]⟩ : ByteArray)) ++ x3_3).size + 1 ≤ 9223372036854775807) = true := decide_eq_true c12
       try have c12b2 : (9223372036854775807 < ((a0_0 ++ (⟨#[32]⟩ : ByteArray)) ++ x3_3).size + 1) = False := eq_false (Nat.not_lt.2 c12)
       try have c12b3 := c12b2
       try simp only [ByteArray.size_append, pw_size_mk, List.size_toArray, List.length_cons, List.length_nil, Nat.zero_add] at c12b3
       replace H := Option.bind_eq_some_iff.mp H
       obtain ⟨t122, A130, H⟩ := H
       replace H : (if (((a0_0 ++ (⟨#[32]⟩ : ByteArray)) ++ x3_3) ++ (⟨#[32]⟩ : ByteArray)).size + t122.size ≤ 9223372036854775807 then (if ((((a0_0 ++ (⟨#[32]⟩ : ByteArray)) ++ x3_3) ++ (⟨#[32]⟩ : ByteArray)) ++ t122).size + 1 ≤ 9223372036854775807 then ((tick_Text.f (l0_3.length : Int)).bind fun t123 => (if (((((a0_0 ++ (⟨#[32]⟩ : ByteArray)) ++ x3_3) ++ (⟨#[32]⟩ : ByteArray)) ++ t122) ++ (⟨#[32]⟩ : ByteArray)).size + t123.size ≤ 9223372036854775807 then (names_Lines.l0 kj3 (([(((((a0_0 ++ (⟨#[32]⟩ : ByteArray)) ++ x3_3) ++ (⟨#[32]⟩ : ByteArray)) ++ t122) ++ (⟨#[32]⟩ : ByteArray)) ++ t123] : List ByteArray)) l0_3 (l0_3.length : Int) 0) else (none))) else (none)) else (none)) = some r := H
       have A13 := Aside0.mk A130
       clear A130
       by_cases c14 : (((a0_0 ++ (⟨#[32]⟩ : ByteArray)) ++ x3_3) ++ (⟨#[32]⟩ : ByteArray)).size + t122.size ≤ 9223372036854775807
       ·rw [if_pos c14] at H
        have c14b0 := eq_true c14
        have c14b1 : decide ((((a0_0 ++ (⟨#[32]⟩ : ByteArray)) ++ x3_3) ++ (⟨#[32]⟩ : ByteArray)).size + t122.size ≤ 9223372036854775807) = true := decide_eq_true c14
        try have c14b2 : (9223372036854775807 < (((a0_0 ++ (⟨#[32]⟩ : ByteArray)) ++ x3_3) ++ (⟨#[32]⟩ : ByteArray)).size + t122.size) = False := eq_false (Nat.not_lt.2 c14)
        try have c14b3 := c14b2
        try simp only [ByteArray.size_append, pw_size_mk, List.size_toArray, List.length_cons, List.length_nil, Nat.zero_add] at c14b3
        by_cases c15 : ((((a0_0 ++ (⟨#[32]⟩ : ByteArray)) ++ x3_3) ++ (⟨#[32]⟩ : ByteArray)) ++ t122).size + 1 ≤ 9223372036854775807
        ·rw [if_pos c15] at H
         have c15b0 := eq_true c15
         have c15b1 : decide (((((a0_0 ++ (⟨#[32]⟩ : ByteArray)) ++ x3_3) ++ (⟨#[32]⟩ : ByteArray)) ++ t122).size + 1 ≤ 9223372036854775807) = true := decide_eq_true c15
         try have c15b2 : (9223372036854775807 < ((((a0_0 ++ (⟨#[32]⟩ : ByteArray)) ++ x3_3) ++ (⟨#[32]⟩ : ByteArray)) ++ t122).size + 1) = False := eq_false (Nat.not_lt.2 c15)
         try have c15b3 := c15b2
         try simp only [ByteArray.size_append, pw_size_mk, List.size_toArray, List.length_cons, List.length_nil, Nat.zero_add] at c15b3
         replace H := Option.bind_eq_some_iff.mp H
         obtain ⟨t123, A160, H⟩ := H
         replace H : (if (((((a0_0 ++ (⟨#[32]⟩ : ByteArray)) ++ x3_3) ++ (⟨#[32]⟩ : ByteArray)) ++ t122) ++ (⟨#[32]⟩ : ByteArray)).size + t123.size ≤ 9223372036854775807 then (names_Lines.l0 kj3 (([(((((a0_0 ++ (⟨#[32]⟩ : ByteArray)) ++ x3_3) ++ (⟨#[32]⟩ : ByteArray)) ++ t122) ++ (⟨#[32]⟩ : ByteArray)) ++ t123] : List ByteArray)) l0_3 (l0_3.length : Int) 0) else (none)) = some r := H
         have A16 := Aside0.mk A160
         clear A160
         by_cases c17 : (((((a0_0 ++ (⟨#[32]⟩ : ByteArray)) ++ x3_3) ++ (⟨#[32]⟩ : ByteArray)) ++ t122) ++ (⟨#[32]⟩ : ByteArray)).size + t123.size ≤ 9223372036854775807
         ·rw [if_pos c17] at H
          have c17b0 := eq_true c17
          have c17b1 : decide ((((((a0_0 ++ (⟨#[32]⟩ : ByteArray)) ++ x3_3) ++ (⟨#[32]⟩ : ByteArray)) ++ t122) ++ (⟨#[32]⟩ : ByteArray)).size + t123.size ≤ 9223372036854775807) = true := decide_eq_true c17
          try have c17b2 : (9223372036854775807 < (((((a0_0 ++ (⟨#[32]⟩ : ByteArray)) ++ x3_3) ++ (⟨#[32]⟩ : ByteArray)) ++ t122) ++ (⟨#[32]⟩ : ByteArray)).size + t123.size) = False := eq_false (Nat.not_lt.2 c17)
          try have c17b3 := c17b2
          try simp only [ByteArray.size_append, pw_size_mk, List.size_toArray, List.length_cons, List.length_nil, Nat.zero_add] at c17b3
          obtain ⟨y124, hy124⟩ : ∃ y_ : List ByteArray, y_ = (([(((((a0_0 ++ (⟨#[32]⟩ : ByteArray)) ++ x3_3) ++ (⟨#[32]⟩ : ByteArray)) ++ t122) ++ (⟨#[32]⟩ : ByteArray)) ++ t123] : List ByteArray)) := ⟨_, rfl⟩
          replace H : (names_Lines.l0 kj3 y124 l0_3 (l0_3.length : Int) 0) = some r := by first | (rw [hy124]; with_reducible exact H) | (have H2_ := (Option.bind_some _ _).symm.trans H; rw [hy124]; with_reducible exact H2_) | (have H2_ := (Option.bind_some _ _).symm.trans H; with_reducible exact H2_) | with_reducible exact H | (rw [hy124]; exact H) | exact H
          have Ny124 := Aside0.mk hy124
          clear hy124
          have H' := Aside0.mk H
          clear H
          try go_wp2
          have n0_ := Aside0.mk (blk_drew BK120.out)
          have n1_ := Aside0.mk (below_drew1 HB.out)
          clear BK120
          clear HB
          have BK120 := n0_
          have HB := n1_
          clear n0_ n1_
          refine start_ (n := 18) (S := fun w' => w'.cell? ⟨gb120, 0, none⟩ = some (.string a0_0) ∧ w'.cell? ⟨gb120, 1, none⟩ = some (.bool a0_1) ∧ w'.cell? ⟨gb120, 2, none⟩ = some (.int .i64 a0_2) ∧ w'.cell? ⟨gb120, 3, none⟩ = some (.slice A0_3 l0_3.length c0_3)) (ds := []) #[false, false, false, false, false, false, false, false, false, false, false, false, false, false, false, false, false, false] (by kernel_rfl) rfl rfl ⟨(blk_cell BK120.out 0).trans rfl, (blk_cell BK120.out 1).trans rfl, (blk_cell BK120.out 2).trans rfl, (blk_cell BK120.out 3).trans rfl⟩ (fun hHeld => ?_); refine with_tabW names_Lines.tab6 names_Lines.bits6 (fun HT_ HW_ => ?_)
          generalize wc.drew = w18 at BK120 HB hHeld ⊢
          refine pure_ (i := 0) (N := some 12) (v := ?_) (a' := ?_) #[true, false, false, false, false, false, false, false, false, false, false, false, false, false, false, false, false, false] rfl rfl (any_of HT_.out (by kernel_rfl)) (fun _ _ _ h => h) (Or.inl ⟨by rfl, ?_⟩) ?_ ?_
          rotate_left
          ·intro w'
           go_simp
           with_reducible rfl
          rotate_left
          ·simp only [Act.put, List.setIfInBounds_toArray, List.set_cons_zero, List.set_cons_succ, i64_w, i32_w]
           rfl
          refine pure_ (i := 3) (N := some 15) (v := ?_) (a' := ?_) #[true, false, false, true, false, false, false, false, false, false, false, false, false, false, false, false, false, false] rfl rfl (any_of HT_.out (by kernel_rfl)) (fun _ _ _ h => h) (Or.inl ⟨by rfl, ?_⟩) ?_ ?_
          rotate_left
          ·intro w'
           go_simp
           with_reducible rfl
          rotate_left
          ·simp only [Act.put, List.setIfInBounds_toArray, List.set_cons_zero, List.set_cons_succ, i64_w, i32_w]
           rfl
          refine pure_ (i := 6) (N := some 18) (v := ?_) (a' := ?_) #[true, false, false, true, false, false, true, false, false, false, false, false, false, false, false, false, false, false] rfl rfl (any_of HT_.out (by kernel_rfl)) (fun _ _ _ h => h) (Or.inl ⟨by rfl, ?_⟩) ?_ ?_
          rotate_left
          ·intro w'
           go_simp
           with_reducible rfl
          rotate_left
          ·simp only [Act.put, List.setIfInBounds_toArray, List.set_cons_zero, List.set_cons_succ, i64_w, i32_w]
           rfl
          refine pure_ (i := 11) (N := some 23) (v := ?_) (a' := ?_) #[true, false, false, true, false, false, true, false, false, false, false, true, false, false, false, false, false, false] rfl rfl (any_of HT_.out (by kernel_rfl)) (fun _ _ _ h => h) (Or.inl ⟨by rfl, ?_⟩) ?_ ?_
          rotate_left
          ·intro w'
           go_simp
           with_reducible rfl
          rotate_left
          ·simp only [Act.put, List.setIfInBounds_toArray, List.set_cons_zero, List.set_cons_succ, i64_w, i32_w]
           rfl
          refine take_ (i := 1) (N := some 13) (v := ?_) (a' := ?_) #[true, true, false, true, false, false, true, false, false, false, false, true, false, false, false, false, false, false] rfl rfl (take_ofW HT_.out HW_.out (by kernel_rfl)) (fun _ _ _ h => h) (Or.inl ⟨by rfl, ?_⟩) hHeld ?_ ?_
          rotate_left
          ·rintro w' ⟨s0, s1, s2, s3⟩
           go_simp
           with_reducible rfl
          rotate_left
          ·simp only [Act.put, List.setIfInBounds_toArray, List.set_cons_zero, List.set_cons_succ, i64_w, i32_w]
           rfl
          refine pure_ (i := 2) (N := some 14) (v := ?_) (a' := ?_) #[true, true, true, true, false, false, true, false, false, false, false, true, false, false, false, false, false, false] rfl rfl (any_of HT_.out (by kernel_rfl)) (fun _ _ _ h => h) (Or.inl ⟨by rfl, ?_⟩) ?_ ?_
          rotate_left
          ·intro w'
           go_simp
           with_reducible rfl
          rotate_left
          ·simp only [Act.put, List.setIfInBounds_toArray, List.set_cons_zero, List.set_cons_succ, i64_w, i32_w]
           rfl
          refine pure_ (i := 4) (N := some 16) (v := ?_) (a' := ?_) #[true, true, true, true, true, false, true, false, false, false, false, true, false, false, false, false, false, false] rfl rfl (any_of HT_.out (by kernel_rfl)) (fun _ _ _ h => h) (Or.inl ⟨by rfl, ?_⟩) ?_ ?_
          rotate_left
          ·intro w'
           go_simp
           with_reducible rfl
          rotate_left
          ·simp only [Act.put, List.setIfInBounds_toArray, List.set_cons_zero, List.set_cons_succ, i64_w, i32_w]
           rfl
          refine pure_ (i := 5) (N := some 17) (v := ?_) (a' := ?_) #[true, true, true, true, true, true, true, false, false, false, false, true, false, false, false, false, false, false] rfl rfl (any_of HT_.out (by kernel_rfl)) (fun _ _ _ h => h) (Or.inl ⟨by rfl, ?_⟩) ?_ ?_
          rotate_left
          ·intro w'
           go_simp
           with_reducible rfl
          rotate_left
          ·simp only [Act.put, List.setIfInBounds_toArray, List.set_cons_zero, List.set_cons_succ, i64_w, i32_w]
           rfl
          refine take_ (i := 7) (N := some 19) (v := ?_) (a' := ?_) #[true, true, true, true, true, true, true, true, false, false, false, true, false, false, false, false, false, false] rfl rfl (take_ofW HT_.out HW_.out (by kernel_rfl)) (fun _ _ _ h => h) (Or.inl ⟨by rfl, ?_⟩) hHeld ?_ ?_
          rotate_left
          ·rintro w' ⟨s0, s1, s2, s3⟩
           go_simp
           with_reducible rfl
          rotate_left
          ·simp only [Act.put, List.setIfInBounds_toArray, List.set_cons_zero, List.set_cons_succ, i64_w, i32_w]
           rfl
          refine take_ (i := 12) (N := some 24) (v := ?_) (a' := ?_) #[true, true, true, true, true, true, true, true, false, false, false, true, true, false, false, false, false, false] rfl rfl (take_ofW HT_.out HW_.out (by kernel_rfl)) (fun _ _ _ h => h) (Or.inl ⟨by rfl, ?_⟩) hHeld ?_ ?_
          rotate_left
          ·rintro w' ⟨s0, s1, s2, s3⟩
           go_simp
           with_reducible rfl
          rotate_left
          ·simp only [Act.put, List.setIfInBounds_toArray, List.set_cons_zero, List.set_cons_succ, i64_w, i32_w]
           rfl
          refine pure_ (i := 13) (N := some 25) (v := ?_) (a' := ?_) #[true, true, true, true, true, true, true, true, false, false, false, true, true, true, false, false, false, false] rfl rfl (any_of HT_.out (by kernel_rfl)) (fun _ _ _ h => h) (Or.inl ⟨by rfl, ?_⟩) ?_ ?_
          rotate_left
          ·intro w'
           go_simp
           with_reducible rfl
          rotate_left
          ·simp only [Act.put, List.setIfInBounds_toArray, List.set_cons_zero, List.set_cons_succ, i64_w, i32_w]
           rfl
          refine one_ (i := 8) (N := some 20) #[true, true, true, true, true, true, true, true, true, false, false, true, true, true, false, false, false, false] rfl rfl (one_of HT_.out (by kernel_rfl)) (by decide) (fun K hK => ?_)
          refine goes_ Try.func26 (by kernel_rfl) rfl #[.int .i64 a0_2] (by rfl) rfl rfl (by (try simp only [List.map_toArray, List.map_cons, List.map_nil]); first | done | rfl | (simp only [List.length_drop, List.length_take]; rfl)) ?_
          with_reducible refine (tick_Text.calls a0_2 t122 _ A13.out).mono ?_
          rintro e w19 ⟨rfl, hb⟩
          refine ⟨_, rfl, ?_⟩
          have n0_ := Aside0.mk (blk_below (g := gb120) (o := .cells #[.string a0_0, .bool a0_1, .int .i64 a0_2, .slice A0_3 l0_3.length c0_3] 24 (0, 0)) (by (with_reducible repeat (first | refine blk_drewN ?_ _ | refine blk_drew ?_ | refine blk_alloc ?_ _)); exact BK120.out) hb)
          have n1_ := Aside0.mk (below_step (by repeat (first | (with_reducible first | exact HB.out | apply below_alloc | apply pw_below_drewN | apply below_drew1 | refine below_set ?_ GE120.out) | exact HB.out)) hb)
          clear BK120
          clear HB
          have BK120 := n0_
          have HB := n1_
          clear n0_ n1_
          (try clear hb)
          (try clear hb2)
          (try clear hk)
          (try clear hi)
          refine hK.out _ _ ⟨(blk_cell BK120.out 0).trans rfl, (blk_cell BK120.out 1).trans rfl, (blk_cell BK120.out 2).trans rfl, (blk_cell BK120.out 3).trans rfl⟩ (fun hHeld => ?_)
          clear hK K
          refine norm_ (a' := ?_) ?_ ?_
          rotate_left
          ·show Act.put _ (some 20) _ = _
           simp only [Act.put, List.setIfInBounds_toArray, List.set_cons_zero, List.set_cons_succ, i64_w, i32_w]
           rfl
          refine pure_ (i := 9) (N := some 21) (v := ?_) (a' := ?_) #[true, true, true, true, true, true, true, true, true, true, false, true, true, true, false, false, false, false] rfl rfl (any_of HT_.out (by kernel_rfl)) (fun _ _ _ h => h) (Or.inl ⟨by rfl, ?_⟩) ?_ ?_
          rotate_left
          ·intro w'
           go_simp
           with_reducible rfl
          rotate_left
          ·simp only [Act.put, List.setIfInBounds_toArray, List.set_cons_zero, List.set_cons_succ, i64_w, i32_w]
           rfl
          refine pure_ (i := 10) (N := some 22) (v := ?_) (a' := ?_) #[true, true, true, true, true, true, true, true, true, true, true, true, true, true, false, false, false, false] rfl rfl (any_of HT_.out (by kernel_rfl)) (fun _ _ _ h => h) (Or.inl ⟨by rfl, ?_⟩) ?_ ?_
          rotate_left
          ·intro w'
           go_simp
           with_reducible rfl
          rotate_left
          ·simp only [Act.put, List.setIfInBounds_toArray, List.set_cons_zero, List.set_cons_succ, i64_w, i32_w]
           rfl
          refine one_ (i := 14) (N := some 26) #[true, true, true, true, true, true, true, true, true, true, true, true, true, true, true, false, false, false] rfl rfl (one_of HT_.out (by kernel_rfl)) (by decide) (fun K hK => ?_)
          refine goes_ Try.func26 (by kernel_rfl) rfl #[.int .i64 (l0_3.length : Int)] (by rfl) rfl rfl (by (try simp only [List.map_toArray, List.map_cons, List.map_nil]); first | done | rfl | (simp only [List.length_drop, List.length_take]; rfl)) ?_
          with_reducible refine (tick_Text.calls (l0_3.length : Int) t123 _ A16.out).mono ?_
          rintro e w20 ⟨rfl, hb⟩
          refine ⟨_, rfl, ?_⟩
          have n0_ := Aside0.mk (blk_below (g := gb120) (o := .cells #[.string a0_0, .bool a0_1, .int .i64 a0_2, .slice A0_3 l0_3.length c0_3] 24 (0, 0)) (by (with_reducible repeat (first | refine blk_drewN ?_ _ | refine blk_drew ?_ | refine blk_alloc ?_ _)); exact BK120.out) hb)
          have n1_ := Aside0.mk (below_step (by repeat (first | (with_reducible first | exact HB.out | apply below_alloc | apply pw_below_drewN | apply below_drew1 | refine below_set ?_ GE120.out) | exact HB.out)) hb)
          clear BK120
          clear HB
          have BK120 := n0_
          have HB := n1_
          clear n0_ n1_
          (try clear hb)
          (try clear hb2)
          (try clear hk)
          (try clear hi)
          refine hK.out _ _ ⟨(blk_cell BK120.out 0).trans rfl, (blk_cell BK120.out 1).trans rfl, (blk_cell BK120.out 2).trans rfl, (blk_cell BK120.out 3).trans rfl⟩ (fun hHeld => ?_)
          clear hK K
          refine norm_ (a' := ?_) ?_ ?_
          rotate_left
          ·show Act.put _ (some 26) _ = _
           simp only [Act.put, List.setIfInBounds_toArray, List.set_cons_zero, List.set_cons_succ, i64_w, i32_w]
           rfl
          refine pure_ (i := 15) (N := some 27) (v := ?_) (a' := ?_) #[true, true, true, true, true, true, true, true, true, true, true, true, true, true, true, true, false, false] rfl rfl (any_of HT_.out (by kernel_rfl)) (fun _ _ _ h => h) (Or.inl ⟨by rfl, ?_⟩) ?_ ?_
          rotate_left
          ·intro w'
           go_simp
           with_reducible rfl
          rotate_left
          ·simp only [Act.put, List.setIfInBounds_toArray, List.set_cons_zero, List.set_cons_succ, i64_w, i32_w]
           rfl
          refine one_ (i := 16) (N := some 28) #[true, true, true, true, true, true, true, true, true, true, true, true, true, true, true, true, true, false] rfl rfl (one_of HT_.out (by kernel_rfl)) (by decide) (fun K hK => ?_)
          refine Kd.R_lit_step Kd.string _ 9 ?hg (N := 28) ?hd (xs := ([(((((a0_0 ++ (⟨#[32]⟩ : ByteArray)) ++ x3_3) ++ (⟨#[32]⟩ : ByteArray)) ++ t122) ++ (⟨#[32]⟩ : ByteArray)) ++ t123] : List ByteArray)) (inner := [.string ((((((a0_0 ++ (⟨#[32]⟩ : ByteArray)) ++ x3_3) ++ (⟨#[32]⟩ : ByteArray)) ++ t122) ++ (⟨#[32]⟩ : ByteArray)) ++ t123)]) (ok := fun _ => True) (okp := fun _ => True) ?hr ?hp (fun _ hk => hk) trivial (Below.refl _ _) (Nat.le_refl _) (by simp) ?_; (case hd => rfl); (case hg => rfl); (case hr => first | (go_simp; done) | (go_simp; rfl)); (case hp => exact (Reps.one (show Kd.M Kd.string _ _ _ ((((((a0_0 ++ (⟨#[32]⟩ : ByteArray)) ++ x3_3) ++ (⟨#[32]⟩ : ByteArray)) ++ t122) ++ (⟨#[32]⟩ : ByteArray)) ++ t123) [.string ((((((a0_0 ++ (⟨#[32]⟩ : ByteArray)) ++ x3_3) ++ (⟨#[32]⟩ : ByteArray)) ++ t122) ++ (⟨#[32]⟩ : ByteArray)) ++ t123)] from rfl) (Reps.none _ _)))
          intro v125 w21 ho22 hb hg_ hnew_
          clear hg_ hnew_
          (first | rw [← Ny124.out] at ho22 | (simp only [Int.reduceToNat] at ho22; rw [← Ny124.out] at ho22))
          have n0_ := Aside0.mk (Kd.R_lower ho22 (below_size (by repeat (first | (with_reducible first | exact HB.out | apply below_alloc | apply pw_below_drewN | apply below_drew1 | refine below_set ?_ GE120.out) | exact HB.out))))
          have n1_ := Aside0.mk (blk_below (g := gb120) (o := .cells #[.string a0_0, .bool a0_1, .int .i64 a0_2, .slice A0_3 l0_3.length c0_3] 24 (0, 0)) (by (with_reducible repeat (first | refine blk_drewN ?_ _ | refine blk_drew ?_ | refine blk_alloc ?_ _)); exact BK120.out) hb)
          have n2_ := Aside0.mk (below_step (by repeat (first | (with_reducible first | exact HB.out | apply below_alloc | apply pw_below_drewN | apply below_drew1 | refine below_set ?_ GE120.out) | exact HB.out)) hb)
          clear BK120
          clear HB
          have HO126 := n0_
          have BK120 := n1_
          have HB := n2_
          clear n0_ n1_ n2_
          clear hb ho22
          refine hK.out _ _ ⟨(blk_cell BK120.out 0).trans rfl, (blk_cell BK120.out 1).trans rfl, (blk_cell BK120.out 2).trans rfl, (blk_cell BK120.out 3).trans rfl⟩ (fun hHeld => ?_)
          clear hK K
          refine norm_ (a' := ?_) ?_ ?_
          rotate_left
          ·show Act.put _ (some 28) _ = _
           simp only [Act.put, List.setIfInBounds_toArray, List.set_cons_zero, List.set_cons_succ, i64_w, i32_w]
           rfl
          refine pure_ (i := 17) (N := some 4) (v := ?_) (a' := ?_) #[true, true, true, true, true, true, true, true, true, true, true, true, true, true, true, true, true, true] rfl rfl (any_of HT_.out (by kernel_rfl)) (fun _ _ _ h => h) (Or.inl ⟨by rfl, ?_⟩) ?_ ?_
          rotate_left
          ·intro w'
           go_simp
           with_reducible rfl
          rotate_left
          ·simp only [Act.put, List.setIfInBounds_toArray, List.set_cons_zero, List.set_cons_succ, i64_w, i32_w]
           rfl
          refine done_ (done_of HT_.out (by kernel_rfl)) ?_
          have hcz23_0 : w21.cell? ⟨gb120, 0, none⟩ = some (.string a0_0) := (blk_cell BK120.out 0).trans rfl
          have hcz23_1 : w21.cell? ⟨gb120, 1, none⟩ = some (.bool a0_1) := (blk_cell BK120.out 1).trans rfl
          have hcz23_2 : w21.cell? ⟨gb120, 2, none⟩ = some (.int .i64 a0_2) := (blk_cell BK120.out 2).trans rfl
          have hcz23_3 : w21.cell? ⟨gb120, 3, none⟩ = some (.slice A0_3 l0_3.length c0_3) := (blk_cell BK120.out 3).trans rfl
          have hfz23_0 := blk_frozen BK120.out 0
          have hfz23_1 := blk_frozen BK120.out 1
          have hfz23_2 := blk_frozen BK120.out 2
          have hfz23_3 := blk_frozen BK120.out 3
          try go_wp2
          go_loopg [4, 32] kj3 (fun kq v4 v32 w' => ∃ (x4_2 : List ByteArray) (x32_2 : Int), v32 = .int .i64 x32_2 ∧ Aside0 (names_Lines.l0 kq x4_2 l0_3 (l0_3.length : Int) x32_2 = some r) ∧ Aside0 (kq ≤ kj3) ∧ Aside0 (Kd.R Kd.string 9 w' w.heap.size (fun _ => True) v4 x4_2) ∧ Aside0 (w'.heap[gb120]? = some (.cells #[.string a0_0, .bool a0_1, .int .i64 a0_2, (.slice A0_3 l0_3.length c0_3)] 24 (0, 0))) ∧ Aside0 (Below w.heap.size w w'))
          case atStart => exact ⟨(y124), (0), (by first | rfl | (simp; done) | (simp [*]; done)), H', ⟨Nat.le_refl _⟩, ⟨by (with_reducible repeat (first | apply Kd.R_alloc | apply Kd.R_drewN | apply Kd.R_drew)); exact HO126.out⟩, ⟨by (with_reducible repeat (first | refine blk_drewN ?_ _ | refine blk_drew ?_ | refine blk_alloc ?_ _)); exact BK120.out⟩, ⟨by repeat (first | (with_reducible first | exact HB.out | apply below_alloc | apply pw_below_drewN | apply below_drew1 | refine below_set ?_ GE120.out) | exact HB.out)⟩⟩
          case round =>
           clear H'
           try clear c1
           try clear c2
           try clear p2
           try clear c3
           try clear c3b0
           try clear c3b1
           try clear c9
           try clear c10
           try clear c10b0
           try clear c10b1
           try clear c10b2
           try clear c10b3
           try clear c11
           try clear c11b0
           try clear c11b1
           try clear c11b2
           try clear c11b3
           try clear c12
           try clear c12b0
           try clear c12b1
           try clear c12b2
           try clear c12b3
           try clear c14
           try clear c14b0
           try clear c14b1
           try clear c14b2
           try clear c14b3
           try clear c15
           try clear c15b0
           try clear c15b1
           try clear c15b2
           try clear c15b3
           try clear c17
           try clear c17b0
           try clear c17b1
           try clear c17b2
           try clear c17b3
           try clear hcz23_0
           try clear hcz23_1
           try clear hcz23_2
           try clear hcz23_3
           try clear hcz6_0
           try clear hcz6_1
           try clear hcz6_2
           try clear hcz6_3
           try clear hcz8_0
           try clear hcz8_1
           try clear hcz8_2
           try clear hcz8_3
           try clear hfz23_0
           try clear hfz23_1
           try clear hfz23_2
           try clear hfz23_3
           try clear hfz6_0
           try clear hfz6_1
           try clear hfz6_2
           try clear hfz6_3
           try clear hfz8_0
           try clear hfz8_1
           try clear hfz8_2
           try clear hfz8_3
           try clear p2
           obtain ⟨x4_2, x32_2, rfl, HA, HK2, HO_4, BK120, HB⟩ := hrel
           cases gk with
           | zero => exact absurd HA.out (by simp [names_Lines.l0])
           | succ k2 =>
            have H := HA.out
            clear HA
            simp only [names_Lines.l0] at H
            by_cases c24 : x32_2 < (l0_3.length : Int)
            ·rw [if_pos c24] at H
             have c24b0 : decide (x32_2 < (l0_3.length : Int)) = true := decide_eq_true c24
             clear c24
             by_cases c25 : 0 ≤ x32_2
             ·rw [if_pos c25] at H
              have c25b0 : decide (0 ≤ x32_2) = true := decide_eq_true c25
              clear c25
              by_cases c26 : x32_2 < (l0_3.length : Int)
              ·rw [if_pos c26] at H
               have c26b0 : decide (x32_2 < (l0_3.length : Int)) = true := decide_eq_true c26
               clear c26
               replace H := Option.bind_eq_some_iff.mp H
               obtain ⟨t129, A270, H⟩ := H
               replace H : (if x4_2.length < 8796093022208 then (names_Lines.l0 k2 (x4_2 ++ [t129]) l0_3 (l0_3.length : Int) (wrap64 (x32_2 + 1))) else (none)) = some r := H
               have A27 := Aside0.mk A270
               clear A270
               by_cases c28 : x4_2.length < 8796093022208
               ·rw [if_pos c28] at H
                have LMc28 := Aside0.mk c28
                clear c28
                obtain ⟨y130, hy130⟩ : ∃ y_ : List ByteArray, y_ = (x4_2 ++ [t129]) := ⟨_, rfl⟩
                replace H : (names_Lines.l0 k2 y130 l0_3 (l0_3.length : Int) (wrap64 (x32_2 + 1))) = some r := by first | (rw [hy130]; with_reducible exact H) | (have H2_ := (Option.bind_some _ _).symm.trans H; rw [hy130]; with_reducible exact H2_) | (have H2_ := (Option.bind_some _ _).symm.trans H; with_reducible exact H2_) | with_reducible exact H | (rw [hy130]; exact H) | exact H
                have Ny130 := Aside0.mk hy130
                clear hy130
                have H' := Aside0.mk H
                clear H
                have p127 : 0 ≤ (x32_2 : Int) := of_decide_eq_true (by first | (with_reducible assumption) | assumption)
                have q127 : x32_2 < (l0_3.length : Int) := of_decide_eq_true (by first | (with_reducible assumption) | assumption)
                obtain ⟨ad127, e127, hx127_0, hx127_1, hx127_2, hx127_3, hx127_4, hx127_5⟩ := at_T39 HR0_3.out x32_2 p127 q127
                cases e127
                replace hx127_0 := (HB.out.cell (World.block_lt_of_cell? w _ hx127_0)).trans hx127_0
                replace hx127_1 := (HB.out.cell (World.block_lt_of_cell? w _ hx127_1)).trans hx127_1
                replace hx127_2 := (HB.out.cell (World.block_lt_of_cell? w _ hx127_2)).trans hx127_2
                replace hx127_3 := (HB.out.cell (World.block_lt_of_cell? w _ hx127_3)).trans hx127_3
                replace hx127_4 := (HB.out.cell (World.block_lt_of_cell? w _ hx127_4)).trans hx127_4
                replace hx127_5 := (HB.out.cell (World.block_lt_of_cell? w _ hx127_5)).trans hx127_5
                replace p127 := eq_true p127
                replace q127 := eq_true q127
                go_wp2_with (first | ((with_reducible refine gate_dst (N := 6) rfl ?_); refine box_event ?hg (N := 6) ?hd (cs := #[.string (⟨#[]⟩ : ByteArray), .int .i64 0, .bool false, .int .i64 0, .int .i64 0, .int .i64 0]) (t := 39) ?hr ?_; (case hd => rfl); (case hg => rfl); (case hr => first | (go_simp; done) | (go_simp; rfl)); intro gb128 hg w29 hbox hb; have n0_ := Aside0.mk (Kd.R_below (by (with_reducible repeat (first | apply Kd.R_alloc | apply Kd.R_drewN | apply Kd.R_drew)); exact HO_4.out) hb); have n1_ := Aside0.mk (blk_below (g := gb120) (o := .cells #[.string a0_0, .bool a0_1, .int .i64 a0_2, .slice (some ad127) l0_3.length c0_3] 24 (0, 0)) (by (with_reducible repeat (first | refine blk_drewN ?_ _ | refine blk_drew ?_ | refine blk_alloc ?_ _)); exact BK120.out) hb); have n2_ := Aside0.mk (below_step (by repeat (first | (with_reducible first | exact HB.out | apply below_alloc | apply pw_below_drewN | apply below_drew1 | refine below_set ?_ GE120.out) | exact HB.out)) hb); have n3_ := Aside0.mk (hbox); have n4_ := Aside0.mk ((by rw [hg]; exact (below_size (by repeat (first | (with_reducible first | exact HB.out | apply below_alloc | apply pw_below_drewN | apply below_drew1 | refine below_set ?_ GE120.out) | exact HB.out))) : w.heap.size ≤ gb128)); have n5_ := Aside0.mk ((by rw [hg]; exact (below_size (by repeat (first | (with_reducible first | exact HB.out | apply below_alloc | apply pw_below_drewN | apply below_drew1 | refine below_set ?_ GE120.out) | exact HB.out))) : w.heap.size ≤ gb128)); have n6_ := Aside0.mk ((by rw [hg]; exact Nat.ne_of_lt (blk_lt (g := gb120) (o := .cells #[.string a0_0, .bool a0_1, .int .i64 a0_2, .slice (some ad127) l0_3.length c0_3] 24 (0, 0)) (by (with_reducible repeat (first | refine blk_drewN ?_ _ | refine blk_drew ?_ | refine blk_alloc ?_ _)); exact BK120.out)) : gb120 ≠ gb128)); have n7_ := Aside0.mk ((by rw [hg]; exact Nat.ne_of_gt (blk_lt (g := gb120) (o := .cells #[.string a0_0, .bool a0_1, .int .i64 a0_2, .slice (some ad127) l0_3.length c0_3] 24 (0, 0)) (by (with_reducible repeat (first | refine blk_drewN ?_ _ | refine blk_drew ?_ | refine blk_alloc ?_ _)); exact BK120.out)) : gb128 ≠ gb120)); clear HO_4; clear BK120; clear HB; have HO_4 := n0_; have BK120 := n1_; have HB := n2_; have BK128 := n3_; have GW128 := n4_; have GE128 := n5_; have NB120_128 := n6_; have NB128_120 := n7_; clear n0_ n1_ n2_ n3_ n4_ n5_ n6_ n7_; clear hb hbox hg; have hnb30 := NB128_120.out; have hnc30 := NB120_128.out; have hcz31_0 : w29.cell? ⟨gb128, 0, none⟩ = some (.string (⟨#[]⟩ : ByteArray)) := (blk_cell BK128.out 0).trans rfl; have hcz31_1 : w29.cell? ⟨gb128, 1, none⟩ = some (.int .i64 0) := (blk_cell BK128.out 1).trans rfl; have hcz31_2 : w29.cell? ⟨gb128, 2, none⟩ = some (.bool false) := (blk_cell BK128.out 2).trans rfl; have hcz31_3 : w29.cell? ⟨gb128, 3, none⟩ = some (.int .i64 0) := (blk_cell BK128.out 3).trans rfl; have hcz31_4 : w29.cell? ⟨gb128, 4, none⟩ = some (.int .i64 0) := (blk_cell BK128.out 4).trans rfl; have hcz31_5 : w29.cell? ⟨gb128, 5, none⟩ = some (.int .i64 0) := (blk_cell BK128.out 5).trans rfl; have hfz31_0 := blk_frozen BK128.out 0; have hfz31_1 := blk_frozen BK128.out 1; have hfz31_2 := blk_frozen BK128.out 2; have hfz31_3 := blk_frozen BK128.out 3; have hfz31_4 := blk_frozen BK128.out 4; have hfz31_5 := blk_frozen BK128.out 5) | ((with_reducible refine gate_callee (f := 27) rfl ?_); refine goesL_ (some 38) rfl rfl Try.func27 (by kernel_rfl) rfl #[.agg #[.string ((rd_T39 l0_3 x32_2).f0), .int .i64 ((rd_T39 l0_3 x32_2).f1), .bool ((rd_T39 l0_3 x32_2).f2), .int .i64 ((rd_T39 l0_3 x32_2).f3), .int .i64 ((rd_T39 l0_3 x32_2).f4), .int .i64 ((rd_T39 l0_3 x32_2).f5)]] rfl (by (try simp only [List.map_toArray, List.map_cons, List.map_nil]); first | done | rfl | (simp only [List.length_drop, List.length_take]; rfl)) ?_; (with_reducible refine (toxic_Text.calls ((rd_T39 l0_3 x32_2).f0) ((rd_T39 l0_3 x32_2).f1) ((rd_T39 l0_3 x32_2).f2) ((rd_T39 l0_3 x32_2).f3) ((rd_T39 l0_3 x32_2).f4) ((rd_T39 l0_3 x32_2).f5) t129 _ A27.out).mono ?_); rintro e w32 ⟨rfl, hb⟩; refine ⟨_, rfl, ?_⟩; have n0_ := Aside0.mk (Kd.R_below (by (with_reducible repeat (first | apply Kd.R_alloc | apply Kd.R_drewN | apply Kd.R_drew)); exact (Kd.R_mono (Kd.R_far (p := ⟨gb128, 5, none⟩) (Kd.R_far (p := ⟨gb128, 4, none⟩) (Kd.R_far (p := ⟨gb128, 3, none⟩) (Kd.R_far (p := ⟨gb128, 2, none⟩) (Kd.R_far (p := ⟨gb128, 1, none⟩) (Kd.R_far (p := ⟨gb128, 0, none⟩) (Kd.R_types HO_4.out BK128.out (by decide)) (fun _ hk => hk.2) (.string ((rd_T39 l0_3 x32_2).f0))) (fun _ hk => hk.2) (.int .i64 ((rd_T39 l0_3 x32_2).f1))) (fun _ hk => hk.2) (.bool ((rd_T39 l0_3 x32_2).f2))) (fun _ hk => hk.2) (.int .i64 ((rd_T39 l0_3 x32_2).f3))) (fun _ hk => hk.2) (.int .i64 ((rd_T39 l0_3 x32_2).f4))) (fun _ hk => hk.2) (.int .i64 ((rd_T39 l0_3 x32_2).f5))) (fun _ h_ => h_.1))) hb); have n1_ := Aside0.mk (blk_below (g := gb120) (o := .cells #[.string a0_0, .bool a0_1, .int .i64 a0_2, .slice (some ad127) l0_3.length c0_3] 24 (0, 0)) (by (with_reducible repeat (first | refine blk_drewN ?_ _ | refine blk_drew ?_ | refine blk_alloc ?_ _)); refine blk_far ?_ NB120_128.out _; (with_reducible repeat (first | refine blk_drewN ?_ _ | refine blk_drew ?_ | refine blk_alloc ?_ _)); refine blk_far ?_ NB120_128.out _; (with_reducible repeat (first | refine blk_drewN ?_ _ | refine blk_drew ?_ | refine blk_alloc ?_ _)); refine blk_far ?_ NB120_128.out _; (with_reducible repeat (first | refine blk_drewN ?_ _ | refine blk_drew ?_ | refine blk_alloc ?_ _)); refine blk_far ?_ NB120_128.out _; (with_reducible repeat (first | refine blk_drewN ?_ _ | refine blk_drew ?_ | refine blk_alloc ?_ _)); refine blk_far ?_ NB120_128.out _; (with_reducible repeat (first | refine blk_drewN ?_ _ | refine blk_drew ?_ | refine blk_alloc ?_ _)); refine blk_far ?_ NB120_128.out _; (with_reducible repeat (first | refine blk_drewN ?_ _ | refine blk_drew ?_ | refine blk_alloc ?_ _)); exact BK120.out) hb); have n2_ := Aside0.mk (blk_below (g := gb128) (o := .cells #[.string ((rd_T39 l0_3 x32_2).f0), .int .i64 ((rd_T39 l0_3 x32_2).f1), .bool ((rd_T39 l0_3 x32_2).f2), .int .i64 ((rd_T39 l0_3 x32_2).f3), .int .i64 ((rd_T39 l0_3 x32_2).f4), .int .i64 ((rd_T39 l0_3 x32_2).f5)] 39 (0, 0)) (by (with_reducible repeat (first | refine blk_drewN ?_ _ | refine blk_drew ?_ | refine blk_alloc ?_ _)); refine blk_put (cs := #[.string ((rd_T39 l0_3 x32_2).f0), .int .i64 ((rd_T39 l0_3 x32_2).f1), .bool ((rd_T39 l0_3 x32_2).f2), .int .i64 ((rd_T39 l0_3 x32_2).f3), .int .i64 ((rd_T39 l0_3 x32_2).f4), .int .i64 0]) ?_ 5 _ rfl; (with_reducible repeat (first | refine blk_drewN ?_ _ | refine blk_drew ?_ | refine blk_alloc ?_ _)); refine blk_put (cs := #[.string ((rd_T39 l0_3 x32_2).f0), .int .i64 ((rd_T39 l0_3 x32_2).f1), .bool ((rd_T39 l0_3 x32_2).f2), .int .i64 ((rd_T39 l0_3 x32_2).f3), .int .i64 0, .int .i64 0]) ?_ 4 _ rfl; (with_reducible repeat (first | refine blk_drewN ?_ _ | refine blk_drew ?_ | refine blk_alloc ?_ _)); refine blk_put (cs := #[.string ((rd_T39 l0_3 x32_2).f0), .int .i64 ((rd_T39 l0_3 x32_2).f1), .bool ((rd_T39 l0_3 x32_2).f2), .int .i64 0, .int .i64 0, .int .i64 0]) ?_ 3 _ rfl; (with_reducible repeat (first | refine blk_drewN ?_ _ | refine blk_drew ?_ | refine blk_alloc ?_ _)); refine blk_put (cs := #[.string ((rd_T39 l0_3 x32_2).f0), .int .i64 ((rd_T39 l0_3 x32_2).f1), .bool false, .int .i64 0, .int .i64 0, .int .i64 0]) ?_ 2 _ rfl; (with_reducible repeat (first | refine blk_drewN ?_ _ | refine blk_drew ?_ | refine blk_alloc ?_ _)); refine blk_put (cs := #[.string ((rd_T39 l0_3 x32_2).f0), .int .i64 0, .bool false, .int .i64 0, .int .i64 0, .int .i64 0]) ?_ 1 _ rfl; (with_reducible repeat (first | refine blk_drewN ?_ _ | refine blk_drew ?_ | refine blk_alloc ?_ _)); refine blk_put (cs := #[.string (⟨#[]⟩ : ByteArray), .int .i64 0, .bool false, .int .i64 0, .int .i64 0, .int .i64 0]) ?_ 0 _ rfl; (with_reducible repeat (first | refine blk_drewN ?_ _ | refine blk_drew ?_ | refine blk_alloc ?_ _)); exact BK128.out) hb); have n3_ := Aside0.mk (below_step (by repeat (first | (with_reducible first | exact HB.out | apply below_alloc | apply pw_below_drewN | apply below_drew1 | refine below_set ?_ GE120.out | refine below_set ?_ GE128.out) | exact HB.out)) hb); clear HO_4; clear BK120; clear BK128; clear HB; have HO_4 := n0_; have BK120 := n1_; have BK128 := n2_; have HB := n3_; clear n0_ n1_ n2_ n3_; (try clear hb); (try clear hb2); (try clear hk); (try clear hi)) | ((with_reducible refine gate_builtin (b := .append) (xs := #[.tmp 36, .tmp 39]) rfl ?_); at_builtin; refine Kd.R_append Kd.string (w0 := w) w.heap.size rfl (.tmp 36) (.tmp 39) 28 9 (.string ⟨#[]⟩) 16 rfl Try.underlying28 info9 rfl (by decide) (by omega) u4 x4_2 t129 [.string t129] (fun _ => True) (fun _ => False) rfl rfl ?aP (fun _ hk => hk.elim) ?aF ?aO ?aB ?aS ?aL ?_; (case aP => exact rfl); (case aB => exact (by repeat (first | (with_reducible first | exact HB.out | apply below_alloc | apply pw_below_drewN | apply below_drew1 | refine below_set ?_ GE120.out | refine below_set ?_ GE128.out) | exact HB.out))); (case aF => exact (fun _ _ => trivial)); (case aO => exact (by (with_reducible repeat (first | apply Kd.R_alloc | apply Kd.R_drewN | apply Kd.R_drew)); exact HO_4.out)); (case aS => exact (below_size (by repeat (first | (with_reducible first | exact HB.out | apply below_alloc | apply pw_below_drewN | apply below_drew1 | refine below_set ?_ GE120.out | refine below_set ?_ GE128.out) | exact HB.out)))); (case aL => have := LMc28.out; omega); intro v131 w33 ho hb hg hat; rw [← Ny130.out] at ho; have n0_ := Aside0.mk (blk_grown (g := gb120) (o := .cells #[.string a0_0, .bool a0_1, .int .i64 a0_2, .slice (some ad127) l0_3.length c0_3] 24 (0, 0)) (by (with_reducible repeat (first | refine blk_drewN ?_ _ | refine blk_drew ?_ | refine blk_alloc ?_ _)); exact BK120.out) hg (Kd.R_ne HO_4.out BK120.out (by decide))); have n1_ := Aside0.mk (blk_grown (g := gb128) (o := .cells #[.string ((rd_T39 l0_3 x32_2).f0), .int .i64 ((rd_T39 l0_3 x32_2).f1), .bool ((rd_T39 l0_3 x32_2).f2), .int .i64 ((rd_T39 l0_3 x32_2).f3), .int .i64 ((rd_T39 l0_3 x32_2).f4), .int .i64 ((rd_T39 l0_3 x32_2).f5)] 39 (0, 0)) (by (with_reducible repeat (first | refine blk_drewN ?_ _ | refine blk_drew ?_ | refine blk_alloc ?_ _)); exact BK128.out) hg (Kd.R_ne HO_4.out BK128.out (by decide))); have n2_ := Aside0.mk (hb); have n3_ := Aside0.mk (ho); clear BK120; clear BK128; clear HB; clear HO_4; have BK120 := n0_; have BK128 := n1_; have HB := n2_; have HO132 := n3_; clear n0_ n1_ n2_ n3_; clear ho hb hg hat))
                go_roundg k2
                case measure => have := HJ3.out; have := HK2.out; omega
                case rel => exact ⟨(y130), (wrap64 (x32_2 + 1)), (by first | rfl | (simp; done) | (simp [*]; done)), H', ⟨by have := HJ3.out; have := HK2.out; omega⟩, ⟨by (with_reducible repeat (first | apply Kd.R_alloc | apply Kd.R_drewN | apply Kd.R_drew)); exact HO132.out⟩, ⟨by (with_reducible repeat (first | refine blk_drewN ?_ _ | refine blk_drew ?_ | refine blk_alloc ?_ _)); exact BK120.out⟩, ⟨by repeat (first | (with_reducible first | exact HB.out | apply below_alloc | apply pw_below_drewN | apply below_drew1 | refine below_set ?_ GE120.out | refine below_set ?_ GE128.out) | exact HB.out)⟩⟩
               ·rw [if_neg c28] at H
                exact absurd H (by simp)
              ·rw [if_neg c26] at H
               exact absurd H (by simp)
             ·rw [if_neg c25] at H
              exact absurd H (by simp)
            ·rw [if_neg c24] at H
             have c24b0 : decide (x32_2 < (l0_3.length : Int)) = false := decide_eq_false c24
             clear c24
             obtain rfl := Option.some.inj H
             go_wp2
             go_ret
             exact ⟨_, by first | rfl | (simp [errW_none, errW_some] <;> rfl) | (simp [*, errW_none, errW_some] <;> rfl), by (with_reducible repeat (first | apply Kd.R_alloc | apply Kd.R_drewN | apply Kd.R_drew)); exact HO_4.out, by repeat (first | (with_reducible first | exact HB.out | apply below_alloc | apply pw_below_drewN | apply below_drew1 | refine below_set ?_ GE120.out) | exact HB.out)⟩
         ·rw [if_neg c17] at H
          exact absurd H (by simp)
        ·rw [if_neg c15] at H
         exact absurd H (by simp)
       ·rw [if_neg c14] at H
        exact absurd H (by simp)
      ·rw [if_neg c12] at H
       exact absurd H (by simp)
     ·rw [if_neg c11] at H
      exact absurd H (by simp)
    ·rw [if_neg c10] at H
     exact absurd H (by simp)
 ·rw [if_neg c3] at H
  have c3b0 : (t121 == 0) = false := beq_eq_false_iff_ne.mpr c3
  have c3b1 : (t121 != 0) = true := bne_iff_ne.mpr c3
  obtain rfl := Option.some.inj H
  go_enter Try.func9, Try.ntmps9
  go_wp2_with (first | ((with_reducible refine gate_dst (N := 1) rfl ?_); refine box_event ?hg (N := 1) ?hd (cs := #[.string a0_0, .bool a0_1, .int .i64 a0_2, .slice A0_3 l0_3.length c0_3]) (t := 24) ?hr ?_; (case hd => rfl); (case hg => rfl); (case hr => first | (go_simp; done) | (go_simp; rfl)); intro gb120 hg w34 hbox hb; have n0_ := Aside0.mk (below_step (by repeat (first | (with_reducible first | exact HB.out | apply below_alloc | apply pw_below_drewN | apply below_drew1) | exact HB.out)) hb); have n1_ := Aside0.mk (hbox); have n2_ := Aside0.mk ((by rw [hg]; exact (below_size (by repeat (first | (with_reducible first | exact HB.out | apply below_alloc | apply pw_below_drewN | apply below_drew1) | exact HB.out))) : w.heap.size ≤ gb120)); have n3_ := Aside0.mk ((by rw [hg]; exact (below_size (by repeat (first | (with_reducible first | exact HB.out | apply below_alloc | apply pw_below_drewN | apply below_drew1) | exact HB.out))) : w.heap.size ≤ gb120)); clear HB; have HB := n0_; have BK120 := n1_; have GW120 := n2_; have GE120 := n3_; clear n0_ n1_ n2_ n3_; clear hb hbox hg; have hcz35_0 : w34.cell? ⟨gb120, 0, none⟩ = some (.string a0_0) := (blk_cell BK120.out 0).trans rfl; have hcz35_1 : w34.cell? ⟨gb120, 1, none⟩ = some (.bool a0_1) := (blk_cell BK120.out 1).trans rfl; have hcz35_2 : w34.cell? ⟨gb120, 2, none⟩ = some (.int .i64 a0_2) := (blk_cell BK120.out 2).trans rfl; have hcz35_3 : w34.cell? ⟨gb120, 3, none⟩ = some (.slice A0_3 l0_3.length c0_3) := (blk_cell BK120.out 3).trans rfl; have hfz35_0 := blk_frozen BK120.out 0; have hfz35_1 := blk_frozen BK120.out 1; have hfz35_2 := blk_frozen BK120.out 2; have hfz35_3 := blk_frozen BK120.out 3) | ((with_reducible refine gate_callee (f := 11) rfl ?_); refine goesL_ (some 8) rfl rfl Try.func11 (by kernel_rfl) rfl #[.agg #[.string a0_0, .bool a0_1, .int .i64 a0_2, .slice A0_3 l0_3.length c0_3]] rfl (by (try simp only [List.map_toArray, List.map_cons, List.map_nil]); first | done | rfl | (simp only [List.length_drop, List.length_take]; rfl)) ?_; (with_reducible refine (names_Check.calls k a0_0 a0_1 a0_2 _ _ l0_3 t121 _ ?side1 ?side2 A2.out).mono ?_); (case side1 => repeat (first | exact (Kd.C_below HR0_3.out HB.out) | (with_reducible refine Kd.C_alloc ?_ _) | (with_reducible refine Kd.C_drewN ?_ _) | (with_reducible refine Kd.C_drew ?_))); (case side2 => exact HC0_3.out); rintro e w36 ⟨rfl, hb⟩; refine ⟨_, rfl, ?_⟩; have n0_ := Aside0.mk (blk_below (g := gb120) (o := .cells #[.string a0_0, .bool a0_1, .int .i64 a0_2, .slice A0_3 l0_3.length c0_3] 24 (0, 0)) (by (with_reducible repeat (first | refine blk_drewN ?_ _ | refine blk_drew ?_ | refine blk_alloc ?_ _)); exact BK120.out) hb); have n1_ := Aside0.mk (below_step (by repeat (first | (with_reducible first | exact HB.out | apply below_alloc | apply pw_below_drewN | apply below_drew1 | refine below_set ?_ GE120.out) | exact HB.out)) hb); clear BK120; clear HB; have BK120 := n0_; have HB := n1_; clear n0_ n1_; (try clear hb); (try clear hb2); (try clear hk); (try clear hi)))
  go_ret
  exact ⟨_, by first | rfl | (simp [errW_none, errW_some] <;> rfl) | (simp [*, errW_none, errW_some] <;> rfl), by first | exact Kd.R_nil _ _ _ _ _ | exact Kd.N_nil _ _ _ _ _ | exact Kd.V_nil _ _ _ _ _ | exact Kd.Q_nil _ _ _ _ _ | exact Kd.S_nil _ _ _ _ _, by repeat (first | (with_reducible first | exact HB.out | apply below_alloc | apply pw_below_drewN | apply below_drew1 | refine below_set ?_ GE120.out) | exact HB.out)⟩
def names_Find.f (l0 : List (S24)) (a1 : ByteArray) : Option (ByteArray × Bool × Int × (List (S39)) × Bool) := (names_at_api_Proxy.f l0 a1).bind fun t134 => (if t134 < 0 then (some ((⟨#[]⟩ : ByteArray), false, 0, ([] : List (S39)), false)) else ((names_own.f l0).bind fun t135 => (if 0 ≤ t134 then (if t134 < (t135.length : Int) then (some ((rd_T24 t135 t134).f0, (rd_T24 t135 t134).f1, (rd_T24 t135 t134).f2, (rd_T24 t135 t134).f3, true)) else (none)) else (none))))
set_option maxHeartbeats 8000000 in
set_option maxRecDepth 100000 in
theorem names_Find.calls (A0 : Option Addr) (c0 : Nat) (l0 : List (S24)) (a1 : ByteArray) (r1 : ByteArray) (r2 : Bool) (r3 : Int) (r4 : List (S39)) (r5 : Bool) (w : World) (hr0 : Kd.C k24 w A0 l0.length l0) (hc0 : l0.length ≤ c0) (h : names_Find.f l0 a1 = some (r1, r2, r3, r4, r5)) :
  Calls Try.prog 13 #[.slice A0 l0.length c0, .string a1] w fun e w' => ∃ v3_ : Value, e = .returned (.tuple #[.agg #[.string r1, .bool r2, .int .i64 r3, v3_], .bool r5]) ∧ Kd.R k39 39 w' w.heap.size (fun _ => True) v3_ r4 ∧ Below w.heap.size w w' := by
 have hu24 := Try.underlying24
 have HR0 := Aside0.mk hr0
 have HC0 := Aside0.mk hc0
 clear hr0 hc0
 have HB := Aside0.mk (Below.refl w.heap.size w)
 have H : ((names_at_api_Proxy.f l0 a1).bind fun t134 => (if t134 < 0 then (some ((⟨#[]⟩ : ByteArray), false, 0, ([] : List (S39)), false)) else ((names_own.f l0).bind fun t135 => (if 0 ≤ t134 then (if t134 < (t135.length : Int) then (some ((rd_T24 t135 t134).f0, (rd_T24 t135 t134).f1, (rd_T24 t135 t134).f2, (rd_T24 t135 t134).f3, true)) else (none)) else (none))))) = some (r1, r2, r3, r4, r5) := h
 clear h
 replace H := Option.bind_eq_some_iff.mp H
 obtain ⟨t134, A30, H⟩ := H
 replace H : (if t134 < 0 then (some ((⟨#[]⟩ : ByteArray), false, 0, ([] : List (S39)), false)) else ((names_own.f l0).bind fun t135 => (if 0 ≤ t134 then (if t134 < (t135.length : Int) then (some ((rd_T24 t135 t134).f0, (rd_T24 t135 t134).f1, (rd_T24 t135 t134).f2, (rd_T24 t135 t134).f3, true)) else (none)) else (none)))) = some (r1, r2, r3, r4, r5) := H
 have A3 := Aside0.mk A30
 clear A30
 by_cases c4 : t134 < 0
 ·rw [if_pos c4] at H
  have c4b0 : decide (t134 < 0) = true := decide_eq_true c4
  clear c4
  simp only [Option.some.injEq, Prod.mk.injEq] at H
  obtain ⟨rfl, rfl, rfl, rfl, rfl⟩ := H
  go_enter Try.func13, Try.ntmps13
  go_wp2_with (first | ((with_reducible refine gate_dst (N := 4) rfl ?_); refine box_event ?hg (N := 4) ?hd (cs := #[.string (⟨#[]⟩ : ByteArray), .bool false, .int .i64 0, .slice none 0 0]) (t := 24) ?hr ?_; (case hd => rfl); (case hg => rfl); (case hr => first | (go_simp; done) | (go_simp; rfl)); intro gb133 hg w5 hbox hb; have n0_ := Aside0.mk (below_step (by repeat (first | (with_reducible first | exact HB.out | apply below_alloc | apply pw_below_drewN | apply below_drew1) | exact HB.out)) hb); have n1_ := Aside0.mk (hbox); have n2_ := Aside0.mk ((by rw [hg]; exact (below_size (by repeat (first | (with_reducible first | exact HB.out | apply below_alloc | apply pw_below_drewN | apply below_drew1) | exact HB.out))) : w.heap.size ≤ gb133)); have n3_ := Aside0.mk ((by rw [hg]; exact (below_size (by repeat (first | (with_reducible first | exact HB.out | apply below_alloc | apply pw_below_drewN | apply below_drew1) | exact HB.out))) : w.heap.size ≤ gb133)); clear HB; have HB := n0_; have BK133 := n1_; have GW133 := n2_; have GE133 := n3_; clear n0_ n1_ n2_ n3_; clear hb hbox hg) | ((with_reducible refine gate_callee (f := 38) rfl ?_); refine goesL_ (some 9) rfl rfl Try.func38 (by kernel_rfl) rfl #[.slice A0 l0.length c0, .string a1, .func (.func 39) #[] #[]] rfl (by (try simp only [List.map_toArray, List.map_cons, List.map_nil]); first | done | rfl | (simp only [List.length_drop, List.length_take]; rfl)) ?_; (with_reducible refine (names_at_api_Proxy.calls _ _ l0 a1  t134 _ ?side1 ?side2 A3.out).mono ?_); (case side1 => repeat (first | exact (Kd.C_below HR0.out HB.out) | (with_reducible refine Kd.C_alloc ?_ _) | (with_reducible refine Kd.C_drewN ?_ _) | (with_reducible refine Kd.C_drew ?_))); (case side2 => exact HC0.out); rintro e w6 ⟨rfl, hb⟩; refine ⟨_, rfl, ?_⟩; have n0_ := Aside0.mk (blk_below (g := gb133) (o := .cells #[.string (⟨#[]⟩ : ByteArray), .bool false, .int .i64 0, .slice none 0 0] 24 (0, 0)) (by (with_reducible repeat (first | refine blk_drewN ?_ _ | refine blk_drew ?_ | refine blk_alloc ?_ _)); exact BK133.out) hb); have n1_ := Aside0.mk (below_step (by repeat (first | (with_reducible first | exact HB.out | apply below_alloc | apply pw_below_drewN | apply below_drew1 | refine below_set ?_ GE133.out) | exact HB.out)) hb); clear BK133; clear HB; have BK133 := n0_; have HB := n1_; clear n0_ n1_; (try clear hb); (try clear hb2); (try clear hk); (try clear hi); have hcz7_0 : w6.cell? ⟨gb133, 0, none⟩ = some (.string (⟨#[]⟩ : ByteArray)) := (blk_cell BK133.out 0).trans rfl; have hcz7_1 : w6.cell? ⟨gb133, 1, none⟩ = some (.bool false) := (blk_cell BK133.out 1).trans rfl; have hcz7_2 : w6.cell? ⟨gb133, 2, none⟩ = some (.int .i64 0) := (blk_cell BK133.out 2).trans rfl; have hcz7_3 : w6.cell? ⟨gb133, 3, none⟩ = some (.slice none 0 0) := (blk_cell BK133.out 3).trans rfl; have hfz7_0 := blk_frozen BK133.out 0; have hfz7_1 := blk_frozen BK133.out 1; have hfz7_2 := blk_frozen BK133.out 2; have hfz7_3 := blk_frozen BK133.out 3))
  refine bodyPost_ret (results_ct rfl _ _ gb133 24 #[.string (⟨#[]⟩ : ByteArray), .bool false, .int .i64 0, .slice none 0 0] (0, 0) _ rfl (by (with_reducible repeat (first | refine blk_drewN ?_ _ | refine blk_drew ?_ | refine blk_alloc ?_ _)); refine blk_put (cs := #[.string (⟨#[]⟩ : ByteArray), .bool false, .int .i64 0, .slice none 0 0]) ?_ 3 _ rfl; (with_reducible repeat (first | refine blk_drewN ?_ _ | refine blk_drew ?_ | refine blk_alloc ?_ _)); refine blk_put (cs := #[.string (⟨#[]⟩ : ByteArray), .bool false, .int .i64 0, .slice none 0 0]) ?_ 2 _ rfl; (with_reducible repeat (first | refine blk_drewN ?_ _ | refine blk_drew ?_ | refine blk_alloc ?_ _)); refine blk_put (cs := #[.string (⟨#[]⟩ : ByteArray), .bool false, .int .i64 0, .slice none 0 0]) ?_ 1 _ rfl; (with_reducible repeat (first | refine blk_drewN ?_ _ | refine blk_drew ?_ | refine blk_alloc ?_ _)); refine blk_put (cs := #[.string (⟨#[]⟩ : ByteArray), .bool false, .int .i64 0, .slice none 0 0]) ?_ 0 _ rfl; (with_reducible repeat (first | refine blk_drewN ?_ _ | refine blk_drew ?_ | refine blk_alloc ?_ _)); exact BK133.out) Try.underlying24 rfl (by kernel_rfl)) rfl ?_
  exact ⟨_, by first | rfl | (simp [errW_none, errW_some] <;> rfl) | (simp [*, errW_none, errW_some] <;> rfl), by first | exact Kd.R_nil _ _ _ _ _ | exact Kd.N_nil _ _ _ _ _ | exact Kd.V_nil _ _ _ _ _ | exact Kd.Q_nil _ _ _ _ _ | exact Kd.S_nil _ _ _ _ _, by repeat (first | (with_reducible first | exact HB.out | apply below_alloc | apply pw_below_drewN | apply below_drew1 | refine below_set ?_ GE133.out) | exact HB.out)⟩
 ·rw [if_neg c4] at H
  have c4b0 : decide (t134 < 0) = false := decide_eq_false c4
  clear c4
  replace H := Option.bind_eq_some_iff.mp H
  obtain ⟨t135, A80, H⟩ := H
  replace H : (if 0 ≤ t134 then (if t134 < (t135.length : Int) then (some ((rd_T24 t135 t134).f0, (rd_T24 t135 t134).f1, (rd_T24 t135 t134).f2, (rd_T24 t135 t134).f3, true)) else (none)) else (none)) = some (r1, r2, r3, r4, r5) := H
  have A8 := Aside0.mk A80
  clear A80
  by_cases c9 : 0 ≤ t134
  ·rw [if_pos c9] at H
   have c9b0 : decide (0 ≤ t134) = true := decide_eq_true c9
   clear c9
   by_cases c10 : t134 < (t135.length : Int)
   ·rw [if_pos c10] at H
    have c10b0 : decide (t134 < (t135.length : Int)) = true := decide_eq_true c10
    clear c10
    simp only [Option.some.injEq, Prod.mk.injEq] at H
    obtain ⟨rfl, rfl, rfl, rfl, rfl⟩ := H
    go_enter Try.func13, Try.ntmps13
    go_wp2_with (first | ((with_reducible refine gate_dst (N := 4) rfl ?_); refine box_event ?hg (N := 4) ?hd (cs := #[.string (⟨#[]⟩ : ByteArray), .bool false, .int .i64 0, .slice none 0 0]) (t := 24) ?hr ?_; (case hd => rfl); (case hg => rfl); (case hr => first | (go_simp; done) | (go_simp; rfl)); intro gb133 hg w11 hbox hb; have n0_ := Aside0.mk (below_step (by repeat (first | (with_reducible first | exact HB.out | apply below_alloc | apply pw_below_drewN | apply below_drew1) | exact HB.out)) hb); have n1_ := Aside0.mk (hbox); have n2_ := Aside0.mk ((by rw [hg]; exact (below_size (by repeat (first | (with_reducible first | exact HB.out | apply below_alloc | apply pw_below_drewN | apply below_drew1) | exact HB.out))) : w.heap.size ≤ gb133)); have n3_ := Aside0.mk ((by rw [hg]; exact (below_size (by repeat (first | (with_reducible first | exact HB.out | apply below_alloc | apply pw_below_drewN | apply below_drew1) | exact HB.out))) : w.heap.size ≤ gb133)); clear HB; have HB := n0_; have BK133 := n1_; have GW133 := n2_; have GE133 := n3_; clear n0_ n1_ n2_ n3_; clear hb hbox hg) | ((with_reducible refine gate_callee (f := 38) rfl ?_); refine goesL_ (some 9) rfl rfl Try.func38 (by kernel_rfl) rfl #[.slice A0 l0.length c0, .string a1, .func (.func 39) #[] #[]] rfl (by (try simp only [List.map_toArray, List.map_cons, List.map_nil]); first | done | rfl | (simp only [List.length_drop, List.length_take]; rfl)) ?_; (with_reducible refine (names_at_api_Proxy.calls _ _ l0 a1  t134 _ ?side1 ?side2 A3.out).mono ?_); (case side1 => repeat (first | exact (Kd.C_below HR0.out HB.out) | (with_reducible refine Kd.C_alloc ?_ _) | (with_reducible refine Kd.C_drewN ?_ _) | (with_reducible refine Kd.C_drew ?_))); (case side2 => exact HC0.out); rintro e w12 ⟨rfl, hb⟩; refine ⟨_, rfl, ?_⟩; have n0_ := Aside0.mk (blk_below (g := gb133) (o := .cells #[.string (⟨#[]⟩ : ByteArray), .bool false, .int .i64 0, .slice none 0 0] 24 (0, 0)) (by (with_reducible repeat (first | refine blk_drewN ?_ _ | refine blk_drew ?_ | refine blk_alloc ?_ _)); exact BK133.out) hb); have n1_ := Aside0.mk (below_step (by repeat (first | (with_reducible first | exact HB.out | apply below_alloc | apply pw_below_drewN | apply below_drew1 | refine below_set ?_ GE133.out) | exact HB.out)) hb); clear BK133; clear HB; have BK133 := n0_; have HB := n1_; clear n0_ n1_; (try clear hb); (try clear hb2); (try clear hk); (try clear hi)) | ((with_reducible refine gate_callee (f := 40) rfl ?_); refine goesL_ (some 14) rfl rfl Try.func40 (by kernel_rfl) rfl #[.slice A0 l0.length c0] rfl (by (try simp only [List.map_toArray, List.map_cons, List.map_nil]); first | done | rfl | (simp only [List.length_drop, List.length_take]; rfl)) ?_; (with_reducible refine (names_own.calls _ _ l0 t135 _ ?side1 ?side2 A8.out).mono ?_); (case side1 => repeat (first | exact (Kd.C_below HR0.out HB.out) | (with_reducible refine Kd.C_alloc ?_ _) | (with_reducible refine Kd.C_drewN ?_ _) | (with_reducible refine Kd.C_drew ?_))); (case side2 => exact HC0.out); rintro e w13 ⟨v136, rfl, ho0, hb⟩; refine ⟨_, rfl, ?_⟩; have n0_ := Aside0.mk (Kd.S_lower (Kd.S_newB ho0 (g := gb133) (o := .cells #[.string (⟨#[]⟩ : ByteArray), .bool false, .int .i64 0, .slice none 0 0] 24 (0, 0)) (by (with_reducible repeat (first | refine blk_drewN ?_ _ | refine blk_drew ?_ | refine blk_alloc ?_ _)); exact BK133.out)) (below_size (by repeat (first | (with_reducible first | exact HB.out | apply below_alloc | apply pw_below_drewN | apply below_drew1 | refine below_set ?_ GE133.out) | exact HB.out)))); have n1_ := Aside0.mk (blk_below (g := gb133) (o := .cells #[.string (⟨#[]⟩ : ByteArray), .bool false, .int .i64 0, .slice none 0 0] 24 (0, 0)) (by (with_reducible repeat (first | refine blk_drewN ?_ _ | refine blk_drew ?_ | refine blk_alloc ?_ _)); exact BK133.out) hb); have n2_ := Aside0.mk (below_step (by repeat (first | (with_reducible first | exact HB.out | apply below_alloc | apply pw_below_drewN | apply below_drew1 | refine below_set ?_ GE133.out) | exact HB.out)) hb); clear BK133; clear HB; have HO137 := n0_; have BK133 := n1_; have HB := n2_; clear n0_ n1_ n2_; (try clear hb); (try clear hb2); (try clear hk); (try clear hi); (try clear ho0); obtain ⟨Ao14, co14, eo14⟩ := Kd.S_slice HO137.out; subst eo14; have p138 : 0 ≤ (t134 : Int) := of_decide_eq_true (by first | (with_reducible assumption) | assumption); have q138 : t134 < (t135.length : Int) := of_decide_eq_true (by first | (with_reducible assumption) | assumption); obtain ⟨ad138, A138_3, c138_3, e138, hx138_0, hx138_1, hx138_2, hx138_3, hl138_3, hi138_3⟩ := at_T24 (Kd.S_reads' HO137.out).2.2 t134 p138 q138; cases e138; obtain ⟨ce138, hce138, hMe138, hcc138⟩ := Kd.S_get HO137.out z24 t134 p138 (by first | exact q138 | exact of_decide_eq_true (by first | (with_reducible assumption) | assumption) | (have e_ := (Kd.S_reads' HO137.out).1; omega)); obtain ⟨ve138_3, rfl, ge138_3⟩ := k24_openM hMe138; have hv138_3 := hcc138 3 _ rfl; rw [add_field _ _ 3 (by omega)] at hv138_3; replace hv138_3 := Option.some.inj (hv138_3.symm.trans hx138_3); rw [hv138_3] at ge138_3; have HL138_3 := Aside0.mk (show Kd.R k39 39 _ _ _ _ ((rd_T24 t135 t134).f3) from ge138_3); clear hv138_3 ge138_3; clear hcc138 hce138; have HR138_3 := Aside0.mk hi138_3; have HC138_3 := Aside0.mk hl138_3; clear hi138_3 hl138_3; replace p138 := eq_true p138; replace q138 := eq_true q138; have hcz15_0 : w13.cell? ⟨gb133, 0, none⟩ = some (.string (⟨#[]⟩ : ByteArray)) := (blk_cell BK133.out 0).trans rfl; have hcz15_1 : w13.cell? ⟨gb133, 1, none⟩ = some (.bool false) := (blk_cell BK133.out 1).trans rfl; have hcz15_2 : w13.cell? ⟨gb133, 2, none⟩ = some (.int .i64 0) := (blk_cell BK133.out 2).trans rfl; have hcz15_3 : w13.cell? ⟨gb133, 3, none⟩ = some (.slice none 0 0) := (blk_cell BK133.out 3).trans rfl; have hfz15_0 := blk_frozen BK133.out 0; have hfz15_1 := blk_frozen BK133.out 1; have hfz15_2 := blk_frozen BK133.out 2; have hfz15_3 := blk_frozen BK133.out 3))
    refine bodyPost_ret (results_ct rfl _ _ gb133 24 #[.string ((rd_T24 t135 t134).f0), .bool ((rd_T24 t135 t134).f1), .int .i64 ((rd_T24 t135 t134).f2), .slice A138_3 ((rd_T24 t135 t134).f3).length c138_3] (0, 0) _ rfl (by (with_reducible repeat (first | refine blk_drewN ?_ _ | refine blk_drew ?_ | refine blk_alloc ?_ _)); refine blk_put (cs := #[.string ((rd_T24 t135 t134).f0), .bool ((rd_T24 t135 t134).f1), .int .i64 ((rd_T24 t135 t134).f2), .slice none 0 0]) ?_ 3 _ rfl; (with_reducible repeat (first | refine blk_drewN ?_ _ | refine blk_drew ?_ | refine blk_alloc ?_ _)); refine blk_put (cs := #[.string ((rd_T24 t135 t134).f0), .bool ((rd_T24 t135 t134).f1), .int .i64 0, .slice none 0 0]) ?_ 2 _ rfl; (with_reducible repeat (first | refine blk_drewN ?_ _ | refine blk_drew ?_ | refine blk_alloc ?_ _)); refine blk_put (cs := #[.string ((rd_T24 t135 t134).f0), .bool false, .int .i64 0, .slice none 0 0]) ?_ 1 _ rfl; (with_reducible repeat (first | refine blk_drewN ?_ _ | refine blk_drew ?_ | refine blk_alloc ?_ _)); refine blk_put (cs := #[.string (⟨#[]⟩ : ByteArray), .bool false, .int .i64 0, .slice none 0 0]) ?_ 0 _ rfl; (with_reducible repeat (first | refine blk_drewN ?_ _ | refine blk_drew ?_ | refine blk_alloc ?_ _)); exact BK133.out) Try.underlying24 rfl (by kernel_rfl)) rfl ?_
    exact ⟨_, by first | rfl | (simp [errW_none, errW_some] <;> rfl) | (simp [*, errW_none, errW_some] <;> rfl), by (with_reducible repeat (first | apply Kd.R_alloc | apply Kd.R_drewN | apply Kd.R_drew)); exact Kd.R_mono (Kd.R_far (p := ⟨gb133, 3, none⟩) (Kd.R_far (p := ⟨gb133, 2, none⟩) (Kd.R_far (p := ⟨gb133, 1, none⟩) (Kd.R_far (p := ⟨gb133, 0, none⟩) (Kd.R_types HL138_3.out BK133.out (by decide)) (fun _ hk => hk.2) (.string ((rd_T24 t135 t134).f0))) (fun _ hk => hk.2) (.bool ((rd_T24 t135 t134).f1))) (fun _ hk => hk.2) (.int .i64 ((rd_T24 t135 t134).f2))) (fun _ hk => hk.2) (.slice A138_3 ((rd_T24 t135 t134).f3).length c138_3)) (fun _ hk => trivial), by repeat (first | (with_reducible first | exact HB.out | apply below_alloc | apply pw_below_drewN | apply below_drew1 | refine below_set ?_ GE133.out) | exact HB.out)⟩
   ·rw [if_neg c10] at H
    exact absurd H (by simp)
  ·rw [if_neg c9] at H
   exact absurd H (by simp)
def chicanelaw14_alive.f (k : Nat)  : Option (Bool) := (names_Add.f ([] : List (S24)) (⟨#[97]⟩ : ByteArray) 3).bind fun bt139 => ((names_AddToxic.f bt139.1 (⟨#[97]⟩ : ByteArray) (⟨#[108, 97, 103]⟩ : ByteArray) 1 true 100 5 1).bind fun bt143 => ((names_Find.f bt143.1 (⟨#[97]⟩ : ByteArray)).bind fun bt147 => ((names_Lines.f k bt147.1 bt147.2.1 bt147.2.2.1 bt147.2.2.2.1).bind fun t155 => ((names_Drop.f bt143.1 (⟨#[98]⟩ : ByteArray)).bind fun bt158 => (if bt139.2 = 0 then (if bt143.2 = 0 then (if bt147.2.2.2.2 = true then (if (t155.length : Int) = 2 then (if 0 < (t155.length : Int) then (if (rdOf ByteArray.empty t155 0).toList = ([97, 32, 111, 110, 32, 51, 32, 49] : List UInt8) then (if 1 < (t155.length : Int) then (if (rdOf ByteArray.empty t155 1).toList = ([108, 97, 103, 32, 108, 97, 116, 101, 110, 99, 121, 32, 117, 112, 32, 49, 48, 48, 32, 53, 32, 49] : List UInt8) then (if bt158.2 = 142 then ((names_Right.f k bt143.1).bind fun t164 => (if t164 = true then ((names_Same.f bt143.1 bt143.1).bind fun t165 => (some t165)) else (some false))) else (some false)) else (some false)) else (none)) else (some false)) else (none)) else (some false)) else (some false)) else (some false)) else (some false))))))
theorem chicanelaw14_alive.mono : ∀ k, LeO (chicanelaw14_alive.f k ) (chicanelaw14_alive.f (k + 1) ) := by
 intro  k
 unfold chicanelaw14_alive.f
 repeat' first
   | (with_reducible exact names_Lines.mono _ _ _ _ _)
   | (with_reducible exact names_Right.mono _ _)
   | (with_reducible exact LeO.refl _)
   | (with_reducible exact LeO.none _)
   | (with_reducible refine LeO.ite ?_ ?_)
   | (with_reducible refine LeO.bind ?_ (fun _ => ?_))
   | exact names_Lines.mono _ _ _ _ _
   | exact names_Right.mono _ _
   | exact LeO.none _
   | refine LeO.ite ?_ ?_
   | refine LeO.bind ?_ (fun _ => ?_)
set_option maxHeartbeats 8000000 in
set_option maxRecDepth 100000 in
theorem chicanelaw14_alive.calls_t (k : Nat)  (r : Bool) (w : World) (hr : r = true) (h : chicanelaw14_alive.f k  = some r) :
  Calls Try.prog 8 #[] w fun e w' => e = .returned (.bool r) ∧ Below w.heap.size w w' := by
 have hu39 := Try.underlying39
 have hu24 := Try.underlying24
 have HB := Aside0.mk (Below.refl w.heap.size w)
 have H : ((names_Add.f ([] : List (S24)) (⟨#[97]⟩ : ByteArray) 3).bind fun bt139 => ((names_AddToxic.f bt139.1 (⟨#[97]⟩ : ByteArray) (⟨#[108, 97, 103]⟩ : ByteArray) 1 true 100 5 1).bind fun bt143 => ((names_Find.f bt143.1 (⟨#[97]⟩ : ByteArray)).bind fun bt147 => ((names_Lines.f k bt147.1 bt147.2.1 bt147.2.2.1 bt147.2.2.2.1).bind fun t155 => ((names_Drop.f bt143.1 (⟨#[98]⟩ : ByteArray)).bind fun bt158 => (if bt139.2 = 0 then (if bt143.2 = 0 then (if bt147.2.2.2.2 = true then (if (t155.length : Int) = 2 then (if 0 < (t155.length : Int) then (if (rdOf ByteArray.empty t155 0).toList = ([97, 32, 111, 110, 32, 51, 32, 49] : List UInt8) then (if 1 < (t155.length : Int) then (if (rdOf ByteArray.empty t155 1).toList = ([108, 97, 103, 32, 108, 97, 116, 101, 110, 99, 121, 32, 117, 112, 32, 49, 48, 48, 32, 53, 32, 49] : List UInt8) then (if bt158.2 = 142 then ((names_Right.f k bt143.1).bind fun t164 => (if t164 = true then ((names_Same.f bt143.1 bt143.1).bind fun t165 => (some t165)) else (some false))) else (some false)) else (some false)) else (none)) else (some false)) else (none)) else (some false)) else (some false)) else (some false)) else (some false))))))) = some r := h
 clear h
 replace H := Option.bind_eq_some_iff.mp H
 obtain ⟨⟨t139, t140⟩, A10, H⟩ := H
 replace H : ((names_AddToxic.f t139 (⟨#[97]⟩ : ByteArray) (⟨#[108, 97, 103]⟩ : ByteArray) 1 true 100 5 1).bind fun bt143 => ((names_Find.f bt143.1 (⟨#[97]⟩ : ByteArray)).bind fun bt147 => ((names_Lines.f k bt147.1 bt147.2.1 bt147.2.2.1 bt147.2.2.2.1).bind fun t155 => ((names_Drop.f bt143.1 (⟨#[98]⟩ : ByteArray)).bind fun bt158 => (if t140 = 0 then (if bt143.2 = 0 then (if bt147.2.2.2.2 = true then (if (t155.length : Int) = 2 then (if 0 < (t155.length : Int) then (if (rdOf ByteArray.empty t155 0).toList = ([97, 32, 111, 110, 32, 51, 32, 49] : List UInt8) then (if 1 < (t155.length : Int) then (if (rdOf ByteArray.empty t155 1).toList = ([108, 97, 103, 32, 108, 97, 116, 101, 110, 99, 121, 32, 117, 112, 32, 49, 48, 48, 32, 53, 32, 49] : List UInt8) then (if bt158.2 = 142 then ((names_Right.f k bt143.1).bind fun t164 => (if t164 = true then ((names_Same.f bt143.1 bt143.1).bind fun t165 => (some t165)) else (some false))) else (some false)) else (some false)) else (none)) else (some false)) else (none)) else (some false)) else (some false)) else (some false)) else (some false)))))) = some r := H
 have A1 := Aside0.mk A10
 clear A10
 replace H := Option.bind_eq_some_iff.mp H
 obtain ⟨⟨t143, t146⟩, A20, H⟩ := H
 replace H : ((names_Find.f t143 (⟨#[97]⟩ : ByteArray)).bind fun bt147 => ((names_Lines.f k bt147.1 bt147.2.1 bt147.2.2.1 bt147.2.2.2.1).bind fun t155 => ((names_Drop.f t143 (⟨#[98]⟩ : ByteArray)).bind fun bt158 => (if t140 = 0 then (if t146 = 0 then (if bt147.2.2.2.2 = true then (if (t155.length : Int) = 2 then (if 0 < (t155.length : Int) then (if (rdOf ByteArray.empty t155 0).toList = ([97, 32, 111, 110, 32, 51, 32, 49] : List UInt8) then (if 1 < (t155.length : Int) then (if (rdOf ByteArray.empty t155 1).toList = ([108, 97, 103, 32, 108, 97, 116, 101, 110, 99, 121, 32, 117, 112, 32, 49, 48, 48, 32, 53, 32, 49] : List UInt8) then (if bt158.2 = 142 then ((names_Right.f k t143).bind fun t164 => (if t164 = true then ((names_Same.f t143 t143).bind fun t165 => (some t165)) else (some false))) else (some false)) else (some false)) else (none)) else (some false)) else (none)) else (some false)) else (some false)) else (some false)) else (some false))))) = some r := H
 have A2 := Aside0.mk A20
 clear A20
 replace H := Option.bind_eq_some_iff.mp H
 obtain ⟨⟨t147, t148, t149, t150, t153⟩, A30, H⟩ := H
 replace H : ((names_Lines.f k t147 t148 t149 t150).bind fun t155 => ((names_Drop.f t143 (⟨#[98]⟩ : ByteArray)).bind fun bt158 => (if t140 = 0 then (if t146 = 0 then (if t153 = true then (if (t155.length : Int) = 2 then (if 0 < (t155.length : Int) then (if (rdOf ByteArray.empty t155 0).toList = ([97, 32, 111, 110, 32, 51, 32, 49] : List UInt8) then (if 1 < (t155.length : Int) then (if (rdOf ByteArray.empty t155 1).toList = ([108, 97, 103, 32, 108, 97, 116, 101, 110, 99, 121, 32, 117, 112, 32, 49, 48, 48, 32, 53, 32, 49] : List UInt8) then (if bt158.2 = 142 then ((names_Right.f k t143).bind fun t164 => (if t164 = true then ((names_Same.f t143 t143).bind fun t165 => (some t165)) else (some false))) else (some false)) else (some false)) else (none)) else (some false)) else (none)) else (some false)) else (some false)) else (some false)) else (some false)))) = some r := H
 have A3 := Aside0.mk A30
 clear A30
 replace H := Option.bind_eq_some_iff.mp H
 obtain ⟨t155, A40, H⟩ := H
 replace H : ((names_Drop.f t143 (⟨#[98]⟩ : ByteArray)).bind fun bt158 => (if t140 = 0 then (if t146 = 0 then (if t153 = true then (if (t155.length : Int) = 2 then (if 0 < (t155.length : Int) then (if (rdOf ByteArray.empty t155 0).toList = ([97, 32, 111, 110, 32, 51, 32, 49] : List UInt8) then (if 1 < (t155.length : Int) then (if (rdOf ByteArray.empty t155 1).toList = ([108, 97, 103, 32, 108, 97, 116, 101, 110, 99, 121, 32, 117, 112, 32, 49, 48, 48, 32, 53, 32, 49] : List UInt8) then (if bt158.2 = 142 then ((names_Right.f k t143).bind fun t164 => (if t164 = true then ((names_Same.f t143 t143).bind fun t165 => (some t165)) else (some false))) else (some false)) else (some false)) else (none)) else (some false)) else (none)) else (some false)) else (some false)) else (some false)) else (some false))) = some r := H
 have A4 := Aside0.mk A40
 clear A40
 replace H := Option.bind_eq_some_iff.mp H
 obtain ⟨⟨t158, t159⟩, A50, H⟩ := H
 replace H : (if t140 = 0 then (if t146 = 0 then (if t153 = true then (if (t155.length : Int) = 2 then (if 0 < (t155.length : Int) then (if (rdOf ByteArray.empty t155 0).toList = ([97, 32, 111, 110, 32, 51, 32, 49] : List UInt8) then (if 1 < (t155.length : Int) then (if (rdOf ByteArray.empty t155 1).toList = ([108, 97, 103, 32, 108, 97, 116, 101, 110, 99, 121, 32, 117, 112, 32, 49, 48, 48, 32, 53, 32, 49] : List UInt8) then (if t159 = 142 then ((names_Right.f k t143).bind fun t164 => (if t164 = true then ((names_Same.f t143 t143).bind fun t165 => (some t165)) else (some false))) else (some false)) else (some false)) else (none)) else (some false)) else (none)) else (some false)) else (some false)) else (some false)) else (some false)) = some r := H
 have A5 := Aside0.mk A50
 clear A50
 by_cases c6 : t140 = 0
 ·rw [if_pos c6] at H
  have c6b0 : (t140 == 0) = true := beq_iff_eq.mpr c6
  have c6b1 : (t140 != 0) = false := bne_eq_false_iff_eq.mpr c6
  clear c6
  by_cases c7 : t146 = 0
  ·rw [if_pos c7] at H
   have c7b0 : (t146 == 0) = true := beq_iff_eq.mpr c7
   have c7b1 : (t146 != 0) = false := bne_eq_false_iff_eq.mpr c7
   clear c7
   by_cases c8 : t153 = true
   ·subst c8
    have H1 : (if (t155.length : Int) = 2 then (if 0 < (t155.length : Int) then (if (rdOf ByteArray.empty t155 0).toList = ([97, 32, 111, 110, 32, 51, 32, 49] : List UInt8) then (if 1 < (t155.length : Int) then (if (rdOf ByteArray.empty t155 1).toList = ([108, 97, 103, 32, 108, 97, 116, 101, 110, 99, 121, 32, 117, 112, 32, 49, 48, 48, 32, 53, 32, 49] : List UInt8) then (if t159 = 142 then ((names_Right.f k t143).bind fun t164 => (if t164 = true then ((names_Same.f t143 t143).bind fun t165 => (some t165)) else (some false))) else (some false)) else (some false)) else (none)) else (some false)) else (none)) else (some false)) = some r := by rw [if_pos rfl] at H; exact H
    clear H
    have H := H1
    clear H1
    by_cases c9 : (t155.length : Int) = 2
    ·rw [if_pos c9] at H
     have c9b0 : ((t155.length : Int) == 2) = true := beq_iff_eq.mpr c9
     have c9b1 : ((t155.length : Int) != 2) = false := bne_eq_false_iff_eq.mpr c9
     clear c9
     by_cases c10 : 0 < (t155.length : Int)
     ·rw [if_pos c10] at H
      have c10b0 : decide (0 < (t155.length : Int)) = true := decide_eq_true c10
      have c10b1 : decide (0 < t155.length) = true := decide_eq_true (by omega)
      clear c10
      by_cases c11 : (rdOf ByteArray.empty t155 0).toList = ([97, 32, 111, 110, 32, 51, 32, 49] : List UInt8)
      ·rw [if_pos c11] at H
       have c11b0 : ((rdOf ByteArray.empty t155 0).toList == ([97, 32, 111, 110, 32, 51, 32, 49] : List UInt8)) = true := beq_iff_eq.mpr c11
       have c11b1 : ((rdOf ByteArray.empty t155 0).toList != ([97, 32, 111, 110, 32, 51, 32, 49] : List UInt8)) = false := bne_eq_false_iff_eq.mpr c11
       clear c11
       by_cases c12 : 1 < (t155.length : Int)
       ·rw [if_pos c12] at H
        have c12b0 : decide (1 < (t155.length : Int)) = true := decide_eq_true c12
        have c12b1 : decide (1 < t155.length) = true := decide_eq_true (by omega)
        clear c12
        by_cases c13 : (rdOf ByteArray.empty t155 1).toList = ([108, 97, 103, 32, 108, 97, 116, 101, 110, 99, 121, 32, 117, 112, 32, 49, 48, 48, 32, 53, 32, 49] : List UInt8)
        ·rw [if_pos c13] at H
         have c13b0 : ((rdOf ByteArray.empty t155 1).toList == ([108, 97, 103, 32, 108, 97, 116, 101, 110, 99, 121, 32, 117, 112, 32, 49, 48, 48, 32, 53, 32, 49] : List UInt8)) = true := beq_iff_eq.mpr c13
         have c13b1 : ((rdOf ByteArray.empty t155 1).toList != ([108, 97, 103, 32, 108, 97, 116, 101, 110, 99, 121, 32, 117, 112, 32, 49, 48, 48, 32, 53, 32, 49] : List UInt8)) = false := bne_eq_false_iff_eq.mpr c13
         clear c13
         by_cases c14 : t159 = 142
         ·rw [if_pos c14] at H
          have c14b0 : (t159 == 142) = true := beq_iff_eq.mpr c14
          have c14b1 : (t159 != 142) = false := bne_eq_false_iff_eq.mpr c14
          clear c14
          replace H := Option.bind_eq_some_iff.mp H
          obtain ⟨t164, A150, H⟩ := H
          replace H : (if t164 = true then ((names_Same.f t143 t143).bind fun t165 => (some t165)) else (some false)) = some r := H
          have A15 := Aside0.mk A150
          clear A150
          by_cases c16 : t164 = true
          ·subst c16
           have H1 : ((names_Same.f t143 t143).bind fun t165 => (some t165)) = some r := by rw [if_pos rfl] at H; exact H
           clear H
           have H := H1
           clear H1
           replace H := Option.bind_eq_some_iff.mp H
           obtain ⟨t165, A170, H⟩ := H
           replace H : (some t165) = some r := H
           have A17 := Aside0.mk A170
           clear A170
           obtain rfl := Option.some.inj H
           go_enter Try.func8, Try.ntmps8
           go_wp2_with (first | ((with_reducible refine gate_callee (f := 20) rfl ?_); refine goesL_ (some 11) rfl rfl Try.func20 (by kernel_rfl) rfl #[.slice none 0 0, .string (⟨#[97]⟩ : ByteArray), .int .i64 3] rfl (by (try simp only [List.map_toArray, List.map_cons, List.map_nil]); first | done | rfl | (simp only [List.length_drop, List.length_take]; rfl)) ?_; (refine (names_Add.calls _ _ ([] : List (S24)) (⟨#[97]⟩ : ByteArray) 3 t139 t140 _ ?side1 ?side2 A1.out).mono ?_); (case side1 => exact Kd.C_nil _ _); (case side2 => exact Nat.le_refl _); rintro e w18 ⟨v141, rfl, ho0, hb⟩; refine ⟨_, rfl, ?_⟩; have n0_ := Aside0.mk (Kd.S_lower ho0 (below_size (by repeat (first | (with_reducible first | exact HB.out | apply below_alloc | apply pw_below_drewN | apply below_drew1) | exact HB.out)))); have n1_ := Aside0.mk (below_step (by repeat (first | (with_reducible first | exact HB.out | apply below_alloc | apply pw_below_drewN | apply below_drew1) | exact HB.out)) hb); clear HB; have HO142 := n0_; have HB := n1_; clear n0_ n1_; (try clear hb); (try clear hb2); (try clear hk); (try clear hi); (try clear ho0); obtain ⟨Ao19, co19, eo19⟩ := Kd.S_slice HO142.out; subst eo19) | ((with_reducible refine gate_callee (f := 18) rfl ?_); refine goesL_ (some 17) rfl rfl Try.func18 (by kernel_rfl) rfl #[.slice Ao19 t139.length co19, .string (⟨#[97]⟩ : ByteArray), .agg #[.string (⟨#[108, 97, 103]⟩ : ByteArray), .int .i64 1, .bool true, .int .i64 100, .int .i64 5, .int .i64 1]] rfl (by (try simp only [List.map_toArray, List.map_cons, List.map_nil]); first | done | rfl | (simp only [List.length_drop, List.length_take]; rfl)) ?_; (with_reducible refine (names_AddToxic.calls _ _ t139 (⟨#[97]⟩ : ByteArray) (⟨#[108, 97, 103]⟩ : ByteArray) 1 true 100 5 1 t143 t146 _ ?side1 ?side2 A2.out).mono ?_); (case side1 => repeat (first | exact (Kd.S_reads' HO142.out).2.2 | (with_reducible refine Kd.C_alloc ?_ _) | (with_reducible refine Kd.C_drewN ?_ _) | (with_reducible refine Kd.C_drew ?_))); (case side2 => exact (Kd.S_reads' HO142.out).2.1); rintro e w20 ⟨v144, rfl, ho0, hb⟩; refine ⟨_, rfl, ?_⟩; have n0_ := Aside0.mk (Kd.S_elder' (by (with_reducible repeat (first | apply Kd.S_alloc | apply Kd.S_drewN | apply Kd.S_drew)); exact HO142.out) (Kd.S_base ho0) hb); have n1_ := Aside0.mk (Kd.S_lower (Kd.S_new' ho0 (Kd.S_lt (by (with_reducible repeat (first | apply Kd.S_alloc | apply Kd.S_drewN | apply Kd.S_drew)); exact HO142.out))) (below_size (by repeat (first | (with_reducible first | exact HB.out | apply below_alloc | apply pw_below_drewN | apply below_drew1) | exact HB.out)))); have n2_ := Aside0.mk (below_step (by repeat (first | (with_reducible first | exact HB.out | apply below_alloc | apply pw_below_drewN | apply below_drew1) | exact HB.out)) hb); clear HO142; clear HB; have HO142 := n0_; have HO145 := n1_; have HB := n2_; clear n0_ n1_ n2_; (try clear hb); (try clear hb2); (try clear hk); (try clear hi); (try clear ho0); obtain ⟨Ao21, co21, eo21⟩ := Kd.S_slice HO145.out; subst eo21) | ((with_reducible refine gate_callee (f := 13) rfl ?_); refine goesL_ (some 22) rfl rfl Try.func13 (by kernel_rfl) rfl #[.slice Ao21 t143.length co21, .string (⟨#[97]⟩ : ByteArray)] rfl (by (try simp only [List.map_toArray, List.map_cons, List.map_nil]); first | done | rfl | (simp only [List.length_drop, List.length_take]; rfl)) ?_; (with_reducible refine (names_Find.calls _ _ t143 (⟨#[97]⟩ : ByteArray) t147 t148 t149 t150 true _ ?side1 ?side2 A3.out).mono ?_); (case side1 => repeat (first | exact (Kd.S_reads' HO145.out).2.2 | (with_reducible refine Kd.C_alloc ?_ _) | (with_reducible refine Kd.C_drewN ?_ _) | (with_reducible refine Kd.C_drew ?_))); (case side2 => exact (Kd.S_reads' HO145.out).2.1); rintro e w22 ⟨v151, rfl, ho0, hb⟩; refine ⟨_, rfl, ?_⟩; have n0_ := Aside0.mk (Kd.S_elder' (by (with_reducible repeat (first | apply Kd.S_alloc | apply Kd.S_drewN | apply Kd.S_drew)); exact HO142.out) (Kd.R_base ho0) hb); have n1_ := Aside0.mk (Kd.S_elder' (by (with_reducible repeat (first | apply Kd.S_alloc | apply Kd.S_drewN | apply Kd.S_drew)); exact HO145.out) (Kd.R_base ho0) hb); have n2_ := Aside0.mk (Kd.R_lower ho0 (below_size (by repeat (first | (with_reducible first | exact HB.out | apply below_alloc | apply pw_below_drewN | apply below_drew1) | exact HB.out)))); have n3_ := Aside0.mk (below_step (by repeat (first | (with_reducible first | exact HB.out | apply below_alloc | apply pw_below_drewN | apply below_drew1) | exact HB.out)) hb); clear HO142; clear HO145; clear HB; have HO142 := n0_; have HO145 := n1_; have HO152 := n2_; have HB := n3_; clear n0_ n1_ n2_ n3_; (try clear hb); (try clear hb2); (try clear hk); (try clear hi); (try clear ho0)) | ((with_reducible refine gate_dst (N := 5) rfl ?_); (try (refine gate_guard (by rfl) ?_; dsimp only)); refine box_event ?hg (N := 5) ?hd (cs := #[.string (⟨#[]⟩ : ByteArray), .bool false, .int .i64 0, .slice none 0 0]) (t := 24) ?hr ?_; (case hd => rfl); (case hg => rfl); (case hr => first | (go_simp; done) | (go_simp; rfl)); intro gb154 hg w23 hbox hb; have n0_ := Aside0.mk (Kd.S_below (Kd.S_elderB (by (with_reducible repeat (first | apply Kd.S_alloc | apply Kd.S_drewN | apply Kd.S_drew)); exact HO142.out) gb154 (Nat.le_of_eq hg.symm)) hb); have n1_ := Aside0.mk (Kd.S_below (Kd.S_elderB (by (with_reducible repeat (first | apply Kd.S_alloc | apply Kd.S_drewN | apply Kd.S_drew)); exact HO145.out) gb154 (Nat.le_of_eq hg.symm)) hb); have n2_ := Aside0.mk (Kd.R_below (by (with_reducible repeat (first | apply Kd.R_alloc | apply Kd.R_drewN | apply Kd.R_drew)); exact HO152.out) hb); have n3_ := Aside0.mk (below_step (by repeat (first | (with_reducible first | exact HB.out | apply below_alloc | apply pw_below_drewN | apply below_drew1) | exact HB.out)) hb); have n4_ := Aside0.mk (hbox); have n5_ := Aside0.mk ((by rw [hg]; exact (below_size (by repeat (first | (with_reducible first | exact HB.out | apply below_alloc | apply pw_below_drewN | apply below_drew1) | exact HB.out))) : w.heap.size ≤ gb154)); have n6_ := Aside0.mk ((by rw [hg]; exact (below_size (by repeat (first | (with_reducible first | exact HB.out | apply below_alloc | apply pw_below_drewN | apply below_drew1) | exact HB.out))) : w.heap.size ≤ gb154)); clear HO142; clear HO145; clear HO152; clear HB; have HO142 := n0_; have HO145 := n1_; have HO152 := n2_; have HB := n3_; have BK154 := n4_; have GW154 := n5_; have GE154 := n6_; clear n0_ n1_ n2_ n3_ n4_ n5_ n6_; clear hb hbox hg; have hcz24_0 : w23.cell? ⟨gb154, 0, none⟩ = some (.string (⟨#[]⟩ : ByteArray)) := (blk_cell BK154.out 0).trans rfl; have hcz24_1 : w23.cell? ⟨gb154, 1, none⟩ = some (.bool false) := (blk_cell BK154.out 1).trans rfl; have hcz24_2 : w23.cell? ⟨gb154, 2, none⟩ = some (.int .i64 0) := (blk_cell BK154.out 2).trans rfl; have hcz24_3 : w23.cell? ⟨gb154, 3, none⟩ = some (.slice none 0 0) := (blk_cell BK154.out 3).trans rfl; have hfz24_0 := blk_frozen BK154.out 0; have hfz24_1 := blk_frozen BK154.out 1; have hfz24_2 := blk_frozen BK154.out 2; have hfz24_3 := blk_frozen BK154.out 3; obtain ⟨Ao25, co25, eo25⟩ := Kd.R_slice HO152.out; subst eo25) | ((with_reducible refine gate_callee (f := 9) rfl ?_); refine goesL_ (some 26) rfl rfl Try.func9 (by kernel_rfl) rfl #[.agg #[.string t147, .bool t148, .int .i64 t149, .slice Ao25 t150.length co25]] rfl (by (try simp only [List.map_toArray, List.map_cons, List.map_nil]); first | done | rfl | (simp only [List.length_drop, List.length_take]; rfl)) ?_; (with_reducible refine (names_Lines.calls k t147 t148 t149 _ _ t150 t155 _ ?side1 ?side2 A4.out).mono ?_); (case side1 => refine (Kd.R_reads' (e := 39) (base := w.heap.size) (ok := fun k_ => True) (n := t150.length) (c := co25) ?_).2.2; exact (by (with_reducible repeat (first | apply Kd.R_alloc | apply Kd.R_drewN | apply Kd.R_drew)); exact (Kd.R_mono (Kd.R_far (p := ⟨gb154, 3, none⟩) (Kd.R_far (p := ⟨gb154, 2, none⟩) (Kd.R_far (p := ⟨gb154, 1, none⟩) (Kd.R_far (p := ⟨gb154, 0, none⟩) (Kd.R_types HO152.out BK154.out (by decide)) (fun _ hk => hk.2) (.string t147)) (fun _ hk => hk.2) (.bool t148)) (fun _ hk => hk.2) (.int .i64 t149)) (fun _ hk => hk.2) (.slice Ao25 t150.length co25)) (fun _ h_ => h_.1)))); (case side2 => exact (Kd.R_reads' HO152.out).2.1); rintro e w26 ⟨v156, rfl, ho0, hb⟩; refine ⟨_, rfl, ?_⟩; have n0_ := Aside0.mk (Kd.S_below (by (with_reducible repeat (first | apply Kd.S_alloc | apply Kd.S_drewN | apply Kd.S_drew)); exact (Kd.S_mono (Kd.S_far (p := ⟨gb154, 3, none⟩) (Kd.S_far (p := ⟨gb154, 2, none⟩) (Kd.S_far (p := ⟨gb154, 1, none⟩) (Kd.S_far (p := ⟨gb154, 0, none⟩) (Kd.S_mono HO142.out (fun k_ hk => (⟨hk, hk.2⟩ : _ ∧ k_ ≠ gb154))) (fun _ hk => hk.2) (.string t147)) (fun _ hk => hk.2) (.bool t148)) (fun _ hk => hk.2) (.int .i64 t149)) (fun _ hk => hk.2) (.slice Ao25 t150.length co25)) (fun _ h_ => h_.1))) hb); have n1_ := Aside0.mk (Kd.S_below (by (with_reducible repeat (first | apply Kd.S_alloc | apply Kd.S_drewN | apply Kd.S_drew)); exact (Kd.S_mono (Kd.S_far (p := ⟨gb154, 3, none⟩) (Kd.S_far (p := ⟨gb154, 2, none⟩) (Kd.S_far (p := ⟨gb154, 1, none⟩) (Kd.S_far (p := ⟨gb154, 0, none⟩) (Kd.S_mono HO145.out (fun k_ hk => (⟨hk, hk.2⟩ : _ ∧ k_ ≠ gb154))) (fun _ hk => hk.2) (.string t147)) (fun _ hk => hk.2) (.bool t148)) (fun _ hk => hk.2) (.int .i64 t149)) (fun _ hk => hk.2) (.slice Ao25 t150.length co25)) (fun _ h_ => h_.1))) hb); have n2_ := Aside0.mk (Kd.R_below (by (with_reducible repeat (first | apply Kd.R_alloc | apply Kd.R_drewN | apply Kd.R_drew)); exact (Kd.R_mono (Kd.R_far (p := ⟨gb154, 3, none⟩) (Kd.R_far (p := ⟨gb154, 2, none⟩) (Kd.R_far (p := ⟨gb154, 1, none⟩) (Kd.R_far (p := ⟨gb154, 0, none⟩) (Kd.R_types HO152.out BK154.out (by decide)) (fun _ hk => hk.2) (.string t147)) (fun _ hk => hk.2) (.bool t148)) (fun _ hk => hk.2) (.int .i64 t149)) (fun _ hk => hk.2) (.slice Ao25 t150.length co25)) (fun _ h_ => h_.1))) hb); have n3_ := Aside0.mk (Kd.R_lower ho0 (below_size (by repeat (first | (with_reducible first | exact HB.out | apply below_alloc | apply pw_below_drewN | apply below_drew1 | refine below_set ?_ GE154.out) | exact HB.out)))); have n4_ := Aside0.mk (blk_below (g := gb154) (o := .cells #[.string t147, .bool t148, .int .i64 t149, .slice Ao25 t150.length co25] 24 (0, 0)) (by (with_reducible repeat (first | refine blk_drewN ?_ _ | refine blk_drew ?_ | refine blk_alloc ?_ _)); refine blk_put (cs := #[.string t147, .bool t148, .int .i64 t149, .slice none 0 0]) ?_ 3 _ rfl; (with_reducible repeat (first | refine blk_drewN ?_ _ | refine blk_drew ?_ | refine blk_alloc ?_ _)); refine blk_put (cs := #[.string t147, .bool t148, .int .i64 0, .slice none 0 0]) ?_ 2 _ rfl; (with_reducible repeat (first | refine blk_drewN ?_ _ | refine blk_drew ?_ | refine blk_alloc ?_ _)); refine blk_put (cs := #[.string t147, .bool false, .int .i64 0, .slice none 0 0]) ?_ 1 _ rfl; (with_reducible repeat (first | refine blk_drewN ?_ _ | refine blk_drew ?_ | refine blk_alloc ?_ _)); refine blk_put (cs := #[.string (⟨#[]⟩ : ByteArray), .bool false, .int .i64 0, .slice none 0 0]) ?_ 0 _ rfl; (with_reducible repeat (first | refine blk_drewN ?_ _ | refine blk_drew ?_ | refine blk_alloc ?_ _)); exact BK154.out) hb); have n5_ := Aside0.mk (below_step (by repeat (first | (with_reducible first | exact HB.out | apply below_alloc | apply pw_below_drewN | apply below_drew1 | refine below_set ?_ GE154.out) | exact HB.out)) hb); clear HO142; clear HO145; clear HO152; clear BK154; clear HB; have HO142 := n0_; have HO145 := n1_; have HO152 := n2_; have HO157 := n3_; have BK154 := n4_; have HB := n5_; clear n0_ n1_ n2_ n3_ n4_ n5_; (try clear hb); (try clear hb2); (try clear hk); (try clear hi); (try clear ho0)) | ((with_reducible refine gate_callee (f := 21) rfl ?_); refine goesL_ (some 29) rfl rfl Try.func21 (by kernel_rfl) rfl #[.slice Ao21 t143.length co21, .string (⟨#[98]⟩ : ByteArray)] rfl (by (try simp only [List.map_toArray, List.map_cons, List.map_nil]); first | done | rfl | (simp only [List.length_drop, List.length_take]; rfl)) ?_; (with_reducible refine (names_Drop.calls _ _ t143 (⟨#[98]⟩ : ByteArray) t158 t159 _ ?side1 ?side2 A5.out).mono ?_); (case side1 => repeat (first | exact (Kd.S_reads' HO145.out).2.2 | (with_reducible refine Kd.C_alloc ?_ _) | (with_reducible refine Kd.C_drewN ?_ _) | (with_reducible refine Kd.C_drew ?_))); (case side2 => exact (Kd.S_reads' HO145.out).2.1); rintro e w27 ⟨v160, rfl, ho0, hb⟩; refine ⟨_, rfl, ?_⟩; have n0_ := Aside0.mk (Kd.S_elder' (by (with_reducible repeat (first | apply Kd.S_alloc | apply Kd.S_drewN | apply Kd.S_drew)); exact HO142.out) (Kd.S_base ho0) hb); have n1_ := Aside0.mk (Kd.S_elder' (by (with_reducible repeat (first | apply Kd.S_alloc | apply Kd.S_drewN | apply Kd.S_drew)); exact HO145.out) (Kd.S_base ho0) hb); have n2_ := Aside0.mk (Kd.R_below (by (with_reducible repeat (first | apply Kd.R_alloc | apply Kd.R_drewN | apply Kd.R_drew)); exact HO152.out) hb); have n3_ := Aside0.mk (Kd.R_below (by (with_reducible repeat (first | apply Kd.R_alloc | apply Kd.R_drewN | apply Kd.R_drew)); exact HO157.out) hb); have n4_ := Aside0.mk (Kd.S_lower (Kd.S_newB (Kd.S_new' (Kd.S_new' (Kd.S_new' ho0 (Kd.S_lt (by (with_reducible repeat (first | apply Kd.S_alloc | apply Kd.S_drewN | apply Kd.S_drew)); exact HO142.out))) (Kd.S_lt (by (with_reducible repeat (first | apply Kd.S_alloc | apply Kd.S_drewN | apply Kd.S_drew)); exact HO145.out))) (Kd.R_lt (by (with_reducible repeat (first | apply Kd.R_alloc | apply Kd.R_drewN | apply Kd.R_drew)); exact HO152.out))) (g := gb154) (o := .cells #[.string t147, .bool t148, .int .i64 t149, .slice Ao25 t150.length co25] 24 (0, 0)) (by (with_reducible repeat (first | refine blk_drewN ?_ _ | refine blk_drew ?_ | refine blk_alloc ?_ _)); exact BK154.out)) (below_size (by repeat (first | (with_reducible first | exact HB.out | apply below_alloc | apply pw_below_drewN | apply below_drew1 | refine below_set ?_ GE154.out) | exact HB.out)))); have n5_ := Aside0.mk (blk_below (g := gb154) (o := .cells #[.string t147, .bool t148, .int .i64 t149, .slice Ao25 t150.length co25] 24 (0, 0)) (by (with_reducible repeat (first | refine blk_drewN ?_ _ | refine blk_drew ?_ | refine blk_alloc ?_ _)); exact BK154.out) hb); have n6_ := Aside0.mk (below_step (by repeat (first | (with_reducible first | exact HB.out | apply below_alloc | apply pw_below_drewN | apply below_drew1 | refine below_set ?_ GE154.out) | exact HB.out)) hb); clear HO142; clear HO145; clear HO152; clear HO157; clear BK154; clear HB; have HO142 := n0_; have HO145 := n1_; have HO152 := n2_; have HO157 := n3_; have HO161 := n4_; have BK154 := n5_; have HB := n6_; clear n0_ n1_ n2_ n3_ n4_ n5_ n6_; (try clear hb); (try clear hb2); (try clear hk); (try clear hi); (try clear ho0); obtain ⟨Ao28, co28, eo28⟩ := Kd.R_slice HO157.out; subst eo28; have p162 : 0 ≤ (0 : Int) := (by omega); have q162 : 0 < (t155.length : Int) := of_decide_eq_true (by first | (with_reducible assumption) | assumption); obtain ⟨ad162, e162, hx162_0⟩ := Kd.at_string (Kd.R_reads' HO157.out).2.2 0 p162 q162; cases e162; have qi162 : (0 < t155.length) = True := eq_true (by omega); (try rw [show ((0 : Int)).toNat = 0 from rfl] at hx162_0); (try rw [Addr.add_zero'] at hx162_0); replace p162 := eq_true p162; replace q162 := eq_true q162; have p163 : 0 ≤ (1 : Int) := (by omega); have q163 : 1 < (t155.length : Int) := of_decide_eq_true (by first | (with_reducible assumption) | assumption); obtain ⟨ad163, e163, hx163_0⟩ := Kd.at_string (Kd.R_reads' HO157.out).2.2 1 p163 q163; obtain rfl : ad162 = ad163 := (by injection e163); (try simp only [show (1 : Int).toNat = 1 from rfl, Nat.reduceMul, Nat.reduceEqDiff, Go.Addr.add, ↓reduceIte] at hx163_0); have qi163 : (1 < t155.length) = True := eq_true (by omega); (try rw [show ((1 : Int)).toNat = 1 from rfl] at hx163_0); replace p163 := eq_true p163; replace q163 := eq_true q163) | (go_at_call 25; (with_reducible refine (names_Right.calls k _ _ t143 true _ ?side1 ?side2 A15.out).mono ?_); (case side1 => repeat (first | exact (Kd.S_reads' HO145.out).2.2 | (with_reducible refine Kd.C_alloc ?_ _) | (with_reducible refine Kd.C_drewN ?_ _) | (with_reducible refine Kd.C_drew ?_))); (case side2 => exact (Kd.S_reads' HO145.out).2.1); rintro e w29 ⟨rfl, hb⟩; have n0_ := Aside0.mk (Kd.S_below (by (with_reducible repeat (first | apply Kd.S_alloc | apply Kd.S_drewN | apply Kd.S_drew)); exact HO142.out) hb); have n1_ := Aside0.mk (Kd.S_below (by (with_reducible repeat (first | apply Kd.S_alloc | apply Kd.S_drewN | apply Kd.S_drew)); exact HO145.out) hb); have n2_ := Aside0.mk (Kd.R_below (by (with_reducible repeat (first | apply Kd.R_alloc | apply Kd.R_drewN | apply Kd.R_drew)); exact HO152.out) hb); have n3_ := Aside0.mk (Kd.R_below (by (with_reducible repeat (first | apply Kd.R_alloc | apply Kd.R_drewN | apply Kd.R_drew)); exact HO157.out) hb); have n4_ := Aside0.mk (Kd.S_below (by (with_reducible repeat (first | apply Kd.S_alloc | apply Kd.S_drewN | apply Kd.S_drew)); exact HO161.out) hb); have n5_ := Aside0.mk (blk_below (g := gb154) (o := .cells #[.string t147, .bool t148, .int .i64 t149, .slice Ao25 t150.length co25] 24 (0, 0)) (by (with_reducible repeat (first | refine blk_drewN ?_ _ | refine blk_drew ?_ | refine blk_alloc ?_ _)); exact BK154.out) hb); have n6_ := Aside0.mk (below_step (by repeat (first | (with_reducible first | exact HB.out | apply below_alloc | apply pw_below_drewN | apply below_drew1 | refine below_set ?_ GE154.out) | exact HB.out)) hb); clear HO142; clear HO145; clear HO152; clear HO157; clear HO161; clear BK154; clear HB; have HO142 := n0_; have HO145 := n1_; have HO152 := n2_; have HO157 := n3_; have HO161 := n4_; have BK154 := n5_; have HB := n6_; clear n0_ n1_ n2_ n3_ n4_ n5_ n6_; (try clear hb); (try clear hb2); (try clear hk); (try clear hi)) | (go_at_call 15; (with_reducible refine (names_Same.calls _ _ t143 _ _ t143 t165 _ ?side1 ?side2 ?side3 ?side4 A17.out).mono ?_); (case side1 => repeat (first | exact (Kd.S_reads' HO145.out).2.2 | (with_reducible refine Kd.C_alloc ?_ _) | (with_reducible refine Kd.C_drewN ?_ _) | (with_reducible refine Kd.C_drew ?_))); (case side2 => exact (Kd.S_reads' HO145.out).2.1); (case side3 => repeat (first | exact (Kd.S_reads' HO145.out).2.2 | (with_reducible refine Kd.C_alloc ?_ _) | (with_reducible refine Kd.C_drewN ?_ _) | (with_reducible refine Kd.C_drew ?_))); (case side4 => exact (Kd.S_reads' HO145.out).2.1); rintro e w30 ⟨rfl, hb⟩; have n0_ := Aside0.mk (Kd.S_below (by (with_reducible repeat (first | apply Kd.S_alloc | apply Kd.S_drewN | apply Kd.S_drew)); exact HO142.out) hb); have n1_ := Aside0.mk (Kd.S_below (by (with_reducible repeat (first | apply Kd.S_alloc | apply Kd.S_drewN | apply Kd.S_drew)); exact HO145.out) hb); have n2_ := Aside0.mk (Kd.R_below (by (with_reducible repeat (first | apply Kd.R_alloc | apply Kd.R_drewN | apply Kd.R_drew)); exact HO152.out) hb); have n3_ := Aside0.mk (Kd.R_below (by (with_reducible repeat (first | apply Kd.R_alloc | apply Kd.R_drewN | apply Kd.R_drew)); exact HO157.out) hb); have n4_ := Aside0.mk (Kd.S_below (by (with_reducible repeat (first | apply Kd.S_alloc | apply Kd.S_drewN | apply Kd.S_drew)); exact HO161.out) hb); have n5_ := Aside0.mk (blk_below (g := gb154) (o := .cells #[.string t147, .bool t148, .int .i64 t149, .slice Ao25 t150.length co25] 24 (0, 0)) (by (with_reducible repeat (first | refine blk_drewN ?_ _ | refine blk_drew ?_ | refine blk_alloc ?_ _)); exact BK154.out) hb); have n6_ := Aside0.mk (below_step (by repeat (first | (with_reducible first | exact HB.out | apply below_alloc | apply pw_below_drewN | apply below_drew1 | refine below_set ?_ GE154.out) | exact HB.out)) hb); clear HO142; clear HO145; clear HO152; clear HO157; clear HO161; clear BK154; clear HB; have HO142 := n0_; have HO145 := n1_; have HO152 := n2_; have HO157 := n3_; have HO161 := n4_; have BK154 := n5_; have HB := n6_; clear n0_ n1_ n2_ n3_ n4_ n5_ n6_; (try clear hb); (try clear hb2); (try clear hk); (try clear hi)))
           go_ret
           exact ⟨by first | rfl | (simp [errW_none, errW_some] <;> rfl) | (simp [*, errW_none, errW_some] <;> rfl), by repeat (first | (with_reducible first | exact HB.out | apply below_alloc | apply pw_below_drewN | apply below_drew1 | refine below_set ?_ GE154.out) | exact HB.out)⟩
          ·replace c16 := Bool.eq_false_iff.mpr c16
           subst c16
           have H1 : (some false) = some r := by rw [if_neg (show ¬ (false = true) by decide)] at H; exact H
           clear H
           have H := H1
           clear H1
           exact absurd ((Option.some.inj H).trans hr) Bool.false_ne_true
         ·rw [if_neg c14] at H
          have c14b0 : (t159 == 142) = false := beq_eq_false_iff_ne.mpr c14
          have c14b1 : (t159 != 142) = true := bne_iff_ne.mpr c14
          exact absurd ((Option.some.inj H).trans hr) Bool.false_ne_true
        ·rw [if_neg c13] at H
         have c13b0 : ((rdOf ByteArray.empty t155 1).toList == ([108, 97, 103, 32, 108, 97, 116, 101, 110, 99, 121, 32, 117, 112, 32, 49, 48, 48, 32, 53, 32, 49] : List UInt8)) = false := beq_eq_false_iff_ne.mpr c13
         have c13b1 : ((rdOf ByteArray.empty t155 1).toList != ([108, 97, 103, 32, 108, 97, 116, 101, 110, 99, 121, 32, 117, 112, 32, 49, 48, 48, 32, 53, 32, 49] : List UInt8)) = true := bne_iff_ne.mpr c13
         exact absurd ((Option.some.inj H).trans hr) Bool.false_ne_true
       ·rw [if_neg c12] at H
        exact absurd H (by simp)
      ·rw [if_neg c11] at H
       have c11b0 : ((rdOf ByteArray.empty t155 0).toList == ([97, 32, 111, 110, 32, 51, 32, 49] : List UInt8)) = false := beq_eq_false_iff_ne.mpr c11
       have c11b1 : ((rdOf ByteArray.empty t155 0).toList != ([97, 32, 111, 110, 32, 51, 32, 49] : List UInt8)) = true := bne_iff_ne.mpr c11
       exact absurd ((Option.some.inj H).trans hr) Bool.false_ne_true
     ·rw [if_neg c10] at H
      exact absurd H (by simp)
    ·rw [if_neg c9] at H
     have c9b0 : ((t155.length : Int) == 2) = false := beq_eq_false_iff_ne.mpr c9
     have c9b1 : ((t155.length : Int) != 2) = true := bne_iff_ne.mpr c9
     exact absurd ((Option.some.inj H).trans hr) Bool.false_ne_true
   ·replace c8 := Bool.eq_false_iff.mpr c8
    subst c8
    have H1 : (some false) = some r := by rw [if_neg (show ¬ (false = true) by decide)] at H; exact H
    clear H
    have H := H1
    clear H1
    exact absurd ((Option.some.inj H).trans hr) Bool.false_ne_true
  ·rw [if_neg c7] at H
   have c7b0 : (t146 == 0) = false := beq_eq_false_iff_ne.mpr c7
   have c7b1 : (t146 != 0) = true := bne_iff_ne.mpr c7
   exact absurd ((Option.some.inj H).trans hr) Bool.false_ne_true
 ·rw [if_neg c6] at H
  have c6b0 : (t140 == 0) = false := beq_eq_false_iff_ne.mpr c6
  have c6b1 : (t140 != 0) = true := bne_iff_ne.mpr c6
  exact absurd ((Option.some.inj H).trans hr) Bool.false_ne_true
set_option maxRecDepth 100000 in
theorem chicanelaw14_alive.at100 : chicanelaw14_alive.f 100 = some true := by kernel_rfl
theorem chicanelaw14_alive.only (k : Nat) (r : Bool) (h : chicanelaw14_alive.f k = some r) : r = true := by
 have h1 : chicanelaw14_alive.f (k + 100) = some r := by
  generalize 100 = m
  induction m with
  | zero => exact h
  | succ m ih => exact chicanelaw14_alive.mono _ _ ih
 have h2 : chicanelaw14_alive.f (100 + k) = some true := by
  clear h h1
  induction k with
  | zero => exact chicanelaw14_alive.at100
  | succ k ih => exact chicanelaw14_alive.mono _ _ ih
 rw [Nat.add_comm, h2] at h1
 exact (Option.some.inj h1).symm
theorem chicanelaw14_alive.calls (k : Nat) (r : Bool) (w : World) (h : chicanelaw14_alive.f k = some r) :
  Calls Try.prog 8 #[] w fun e w' => e = .returned (.bool r) ∧ Below w.heap.size w w' :=
 chicanelaw14_alive.calls_t k r w (chicanelaw14_alive.only k r h) h
end Go.Proofs.Ytlglbpjccpdloaa.PNamA
set_option linter.unusedVariables false
set_option linter.unusedSimpArgs false
namespace Go.Proofs.Ytlglbpjccpdloaa.Ext
open Go.RowKit Go.Proofs.Ytlglbpjccpdloaa.PNamA Go.Proofs.Ytlglbpjccpdloaa.Tox Go.Proofs.Ytlglbpjccpdloaa.ToxZ Go.Proofs.YtlglbpjccpdloaaW.PrintWords Go.Proofs.YtlglbpjccpdloaaW.PrintLast
def fewB (l : List S24) : Bool := l.all (fun x => decide (x.f3.length ≤ 12) && decide (x.f0.size ≤ 100)) && decide (l.length ≤ 12)
theorem few_l0 (l : List S24) (hm : l.length ≤ 9223372036854775807) : ∀ (k i : Nat), l.length - i < k → i ≤ l.length →
    chicanelaw14_few.l0 k l l (l.length : Int) (i : Int) = some ((l.drop i).all (fun x => decide (x.f3.length ≤ 12) && decide (x.f0.size ≤ 100)) && decide (l.length ≤ 12)) := by
  intro k
  induction k with
  | zero => intro i h; omega
  | succ k ih =>
    intro i h hi
    unfold chicanelaw14_few.l0
    by_cases hl : i < l.length
    · rw [if_pos (by omega), if_pos (by omega), if_pos (by omega), rdP_at l i hl, List.drop_eq_getElem_cons hl, List.all_cons]
      by_cases h1 : l[i].f3.length ≤ 12
      · rw [if_neg (by omega)]
        by_cases h2 : l[i].f0.size ≤ 100
        · rw [if_neg (by omega), show wrap64 ((i : Int) + 1) = ((i + 1 : Nat) : Int) by rw [w64_in' _ (by omega) (by omega)]; rfl, ih (i + 1) (by omega) (by omega)]
          simp [h1, h2]
        · rw [if_pos (by omega)]
          simp [h2]
      · rw [if_pos (by omega)]
        simp [h1]
    · rw [if_neg (by omega), List.drop_eq_nil_of_le (by omega)]
      simp only [List.all_nil, Bool.true_and, Option.some.injEq]
      rw [Bool.eq_iff_iff, decide_eq_true_eq, decide_eq_true_eq]
      omega
theorem few_is (l : List S24) (hm : l.length ≤ 9223372036854775807) (k : Nat) (hk : l.length + 1 ≤ k) : chicanelaw14_few.f k l = some (fewB l) := by
  have := few_l0 l hm k 0 (by omega) (by omega)
  rw [List.drop_zero] at this
  exact this
theorem few_at {l : List S24} (h : fewB l = true) : l.length ≤ 12 ∧ ∀ x ∈ l, x.f3.length ≤ 12 ∧ x.f0.size ≤ 100 := by
  unfold fewB at h
  simp only [Bool.and_eq_true, List.all_eq_true, decide_eq_true_eq] at h
  exact ⟨h.2, h.1⟩
def szM (n : Nat) : Prop := n ≤ 9223372036854775807
theorem rfind_l0 (l : List S39) (hm : l.length ≤ 1000000) (s : ByteArray) : ∀ (k i : Nat), l.length - i < k → i ≤ l.length →
    chicaneref14_find.l0 k l s (i : Int) = some (Lib.idxFromS ((namesT l).drop i) s i) := by
  intro k
  induction k with
  | zero => intro i h; omega
  | succ k ih =>
    intro i h hi
    unfold chicaneref14_find.l0
    by_cases hl : i < l.length
    · have hd : (namesT l).drop i = l[i].f0 :: (namesT l).drop (i + 1) := by
        rw [namesT, List.drop_eq_getElem_cons (by simpa using hl)]; simp
      rw [if_pos (by omega), if_pos (by omega), rdT_at l i hl, hd, Lib.idxFromS]
      by_cases he : l[i].f0 = s
      · rw [if_pos ((nm_toList_eq_iff _ _).2 he), if_pos he]
      · rw [if_neg (fun h2 => he ((nm_toList_eq_iff _ _).1 h2)), if_neg he, show wrap64 ((i : Int) + 1) = ((i + 1 : Nat) : Int) by rw [w64_in' _ (by omega) (by omega)]; rfl]
        exact ih (i + 1) (by omega) (by omega)
    · rw [if_neg (by omega), List.drop_eq_nil_of_le (by simp [namesT]; omega)]
      rfl
theorem rfind_is (l : List S39) (hm : l.length ≤ 1000000) (s : ByteArray) (k : Nat) (hk : l.length < k) : chicaneref14_find.f k l s = some (place (namesT l) s) := by
  have := rfind_l0 l hm s k 0 (by omega) (by omega)
  rw [List.drop_zero] at this
  exact this
theorem dup_step (ns : List ByteArray) (i : Nat) (h : i < ns.length) : place ns ns[i] = (i : Int) ↔ ¬ 0 ≤ place (ns.take i) ns[i] := by
  constructor
  · intro hp hge
    have hmem : ns[i] ∈ ns.take i := by
      apply Classical.byContradiction
      intro hn
      have := place_neg.2 hn
      omega
    obtain ⟨j, hj⟩ := List.mem_iff_getElem?.1 hmem
    rw [List.getElem?_take] at hj
    split at hj
    · rename_i hji
      rcases place_spec ns ns[i] with ⟨h1, _⟩ | ⟨k, h1, h2, h3⟩
      · omega
      · exact h3 j (by omega) hj
    · cases hj
  · intro hn
    have hmem : ns[i] ∉ ns.take i := place_neg.1 (by omega)
    rcases place_spec ns ns[i] with ⟨_, h2⟩ | ⟨k, h1, h2, h3⟩
    · exact absurd (List.getElem_mem h) h2
    · have a : ¬ i < k := fun hik => h3 i hik (List.getElem?_eq_getElem h)
      have b : ¬ k < i := fun hki => hmem (List.mem_iff_getElem?.2 ⟨k, by rw [List.getElem?_take, if_pos hki]; exact h2⟩)
      rw [h1]
      omega
theorem rchk_l1 (l : List S39) (hm : l.length ≤ 1000) (a : ByteArray) (b : Bool) (c : Int) : ∀ (k i : Nat), (l.length - i) + l.length + 1 < k → i ≤ l.length →
    chicaneref14_Check.l1 k (i : Int) a b c l = some (if dupR (namesT l) ((namesT l).drop i) i then 141 else 0) := by
  intro k
  induction k with
  | zero => intro i h; omega
  | succ k ih =>
    intro i h hi
    unfold chicaneref14_Check.l1
    by_cases hl : i < l.length
    · have hd : (namesT l).drop i = l[i].f0 :: (namesT l).drop (i + 1) := by
        rw [namesT, List.drop_eq_getElem_cons (by simpa using hl)]; simp
      have hln : i < (namesT l).length := by simpa [namesT] using hl
      have hg : (namesT l)[i] = l[i].f0 := by simp [namesT]
      have ht : namesT (l.take i) = (namesT l).take i := by simp [namesT, List.map_take]
      have hds := dup_step (namesT l) i hln
      rw [hg] at hds
      rw [if_pos (by omega), if_pos (by omega), if_pos (by omega), rdT_at l i hl, hd, dupR, Int.toNat_natCast, rfind_is _ (by rw [List.length_take]; omega) _ k (by rw [List.length_take]; omega), Option.bind_some, ht]
      by_cases hp : place (namesT l) l[i].f0 = (i : Int)
      · rw [if_neg (show ¬ place _ _ ≥ 0 from hds.1 hp), if_pos hp, show wrap64 ((i : Int) + 1) = ((i + 1 : Nat) : Int) by rw [w64_in' _ (by omega) (by omega)]; rfl]
        exact ih (i + 1) (by omega) (by omega)
      · have h0 : 0 ≤ place ((namesT l).take i) l[i].f0 := Classical.byContradiction fun hn => hp (hds.2 hn)
        rw [if_pos h0, if_neg hp]
        rfl
    · rw [if_neg (by omega), List.drop_eq_nil_of_le (by simp [namesT]; omega)]
      rfl
theorem rchk_l0 (l : List S39) (hm : l.length ≤ 1000) (hz : ∀ t ∈ l, szM t.f0.size) (a : ByteArray) (b : Bool) (c : Int) : ∀ (k i : Nat), (l.length - i) + 2 * l.length + 2 < k → i ≤ l.length →
    chicaneref14_Check.l0 k (i : Int) a b c l = some (if firstBad (l.drop i) = 0 then (if dupR (namesT l) (namesT l) 0 then 141 else 0) else firstBad (l.drop i)) := by
  intro k
  induction k with
  | zero => intro i h; omega
  | succ k ih =>
    intro i h hi
    unfold chicaneref14_Check.l0
    by_cases hl : i < l.length
    · have hzi : l[i].f0.size ≤ 9223372036854775807 := hz _ (List.getElem_mem hl)
      rw [if_pos (by omega), if_pos (by omega), rdT_at l i hl, List.drop_eq_getElem_cons hl, firstBad]
      simp only [chicaneref09_Check.f, if_pos hzi, Option.bind_some]
      by_cases hp : ckT l[i] = 0
      · rw [if_pos (show checkOf _ _ _ _ _ _ = 0 from hp), if_pos hp, show wrap64 ((i : Int) + 1) = ((i + 1 : Nat) : Int) by rw [w64_in' _ (by omega) (by omega)]; rfl]
        exact ih (i + 1) (by omega) (by omega)
      · rw [if_neg (show ¬ checkOf _ _ _ _ _ _ = 0 from hp), if_neg hp, if_neg hp]
        rfl
    · have hi2 : i = l.length := by omega
      rw [if_neg (by omega), List.drop_eq_nil_of_le (by omega)]
      have := rchk_l1 l hm a b c k 0 (by omega) (by omega)
      rw [List.drop_zero] at this
      rw [if_pos (show firstBad [] = 0 from rfl)]
      exact this
def szP (x : S24) : Prop := szM x.f0.size ∧ ∀ t ∈ x.f3, szM t.f0.size
theorem rchk_is (x : S24) (hz : szP x) (k : Nat) (hk : 40 ≤ k) : chicaneref14_Check.f k x.f0 x.f1 x.f2 x.f3 = some (chkP x) := by
  obtain ⟨k, rfl⟩ : ∃ m, k = m + 1 := ⟨k - 1, by omega⟩
  have hz0 : x.f0.size ≤ 9223372036854775807 := hz.1
  unfold chicaneref14_Check.f chkP
  simp only [chicaneref09_Name.f, if_pos hz0, Option.bind_some]
  by_cases hn : nameOk x.f0 = true
  · rw [if_pos hn, if_pos hn]
    have hj : ∀ q : Bool, chicaneref14_Check.j0 (k + 1) q x.f0 x.f1 x.f2 x.f3 = some (if q then 144 else if x.f3.length > 8 then 143 else toxOk x.f3) := by
      intro q
      cases q with
      | true => rfl
      | false =>
        show (if (false : Bool) = true then some 144 else if (x.f3.length : Int) > 8 then some 143 else chicaneref14_Check.l0 k 0 x.f0 x.f1 x.f2 x.f3) = some (if (false : Bool) = true then 144 else if x.f3.length > 8 then 143 else toxOk x.f3)
        rw [if_neg Bool.false_ne_true, if_neg Bool.false_ne_true]
        by_cases h3 : x.f3.length > 8
        · rw [if_pos (by omega), if_pos h3]
        · rw [if_neg (by omega), if_neg h3]
          have := rchk_l0 x.f3 (by omega) hz.2 x.f0 x.f1 x.f2 k 0 (by omega) (by omega)
          rw [List.drop_zero] at this
          exact this
    by_cases h1 : x.f2 < 1
    · rw [if_pos h1, hj, if_neg (show ¬ (1 ≤ x.f2 ∧ x.f2 ≤ 16) by omega)]
      rfl
    · rw [if_neg h1, hj]
      by_cases h2 : x.f2 > 16
      · rw [if_neg (show ¬ (1 ≤ x.f2 ∧ x.f2 ≤ 16) by omega), decide_eq_true h2]
        rfl
      · rw [if_pos (show (1 ≤ x.f2 ∧ x.f2 ≤ 16) by omega), decide_eq_false h2]
        rfl
  · rw [if_neg hn, if_neg hn]
def needP (l : List S24) : Nat := (l.map fun x => x.f3.length + 4).sum
theorem rsame_l1 (x0 x1 : List S24) (x5 : Int) (a0 : ByteArray) (a1 : Bool) (a2 : Int) (A : List S39) (b0 : ByteArray) (b1 : Bool) (b2 : Int) (B : List S39) (hAB : A.length = B.length) (hm : A.length ≤ 9223372036854775807) (k : Nat) :
    ∀ (n i : Nat), A.length - i = n → i ≤ A.length → chicaneref14_Same.l1 (k + n + 1) x0 x1 x5 (i : Int) a0 a1 a2 A b0 b1 b2 B = if eqTL (A.drop i) (B.drop i) then chicaneref14_Same.l0 k x0 x1 (wrap64 (x5 + 1)) else some false := by
  intro n
  induction n with
  | zero =>
    intro i hn hi
    unfold chicaneref14_Same.l1
    rw [if_neg (by omega), List.drop_eq_nil_of_le (by omega), List.drop_eq_nil_of_le (by omega)]
    rfl
  | succ n ih =>
    intro i hn hi
    have hl : i < A.length := by omega
    have hlb : i < B.length := by omega
    unfold chicaneref14_Same.l1
    rw [if_pos (by omega), if_pos (by omega), if_pos (by omega)]
    have ha : rd_T39 A (i : Int) = A[i] := by simp [rd_T39, hl]
    have hb : rd_T39 B (i : Int) = B[i] := by simp [rd_T39, hlb]
    rw [ha, hb, List.drop_eq_getElem_cons hl, List.drop_eq_getElem_cons hlb, eqTL]
    by_cases he : eqT A[i] B[i] = true
    · have he' := (eqT_iff _ _).1 he
      rw [if_neg (by rw [he']; simp), he, Bool.true_and, show wrap64 ((i : Int) + 1) = ((i + 1 : Nat) : Int) by rw [w64_in' _ (by omega) (by omega)]; rfl]
      exact ih (i + 1) (by omega) (by omega)
    · have h2 : eqT A[i] B[i] = false := by simpa using he
      rw [if_pos ?_, h2, Bool.false_and, if_neg (by simp)]
      unfold eqT at h2
      simp only [Bool.and_eq_false_iff, decide_eq_false_iff_not, beq_eq_false_iff_ne] at h2
      simp only [Bool.or_eq_true, Bool.not_eq_true', beq_eq_false_iff_ne]
      rcases h2 with h2 | h2 | h2 | h2 | h2 | h2
      · exact .inl (fun h3 => h2 ((nm_toList_eq_iff _ _).1 h3))
      · exact .inr (.inl h2)
      · exact .inr (.inr (.inl h2))
      · exact .inr (.inr (.inr (.inl h2)))
      · exact .inr (.inr (.inr (.inr (.inl h2))))
      · exact .inr (.inr (.inr (.inr (.inr h2))))
theorem rsame_l0 (a b : List S24) (hab : a.length = b.length) (hm : a.length ≤ 9223372036854775807) (hin : ∀ x ∈ a, x.f3.length ≤ 9223372036854775807) : ∀ (n i k : Nat), a.length - i = n → i ≤ a.length → needP (a.drop i) + 1 ≤ k →
    chicaneref14_Same.l0 k a b (i : Int) = some (eqPL (a.drop i) (b.drop i)) := by
  intro n
  induction n with
  | zero =>
    intro i k hn hi hk
    obtain ⟨k, rfl⟩ : ∃ m, k = m + 1 := ⟨k - 1, by omega⟩
    unfold chicaneref14_Same.l0
    rw [if_neg (by omega), List.drop_eq_nil_of_le (by omega), List.drop_eq_nil_of_le (by omega)]
    rfl
  | succ n ih =>
    intro i k hn hi hk
    have hl : i < a.length := by omega
    have hlb : i < b.length := by omega
    have hneed : needP (a.drop i) = a[i].f3.length + 4 + needP (a.drop (i + 1)) := by
      unfold needP
      rw [List.drop_eq_getElem_cons hl, List.map_cons, List.sum_cons]
    obtain ⟨k, rfl⟩ : ∃ m, k = m + (a[i].f3.length + 4) := ⟨k - (a[i].f3.length + 4), by omega⟩
    rw [show k + (a[i].f3.length + 4) = (k + a[i].f3.length + 3) + 1 by omega]
    unfold chicaneref14_Same.l0
    have ha : rd_T24 a (i : Int) = a[i] := rdP_at a i hl
    have hb : rd_T24 b (i : Int) = b[i] := rdP_at b i hlb
    rw [if_pos (by omega), if_pos (by omega), if_pos (by omega), ha, hb, List.drop_eq_getElem_cons hl, List.drop_eq_getElem_cons hlb, eqPL, eqP]
    have hj1 : ∀ q : Bool, chicaneref14_Same.j1 (k + a[i].f3.length + 3) a b (i : Int) q a[i].f0 a[i].f1 a[i].f2 a[i].f3 b[i].f0 b[i].f1 b[i].f2 b[i].f3 = if q then some false else chicaneref14_Same.l1 (k + a[i].f3.length + 2) a b (i : Int) 0 a[i].f0 a[i].f1 a[i].f2 a[i].f3 b[i].f0 b[i].f1 b[i].f2 b[i].f3 := by
      intro q
      cases q <;> rfl
    by_cases h0 : a[i].f0 = b[i].f0
    · rw [if_pos ((nm_toList_eq_iff _ _).2 h0), decide_eq_true h0, Bool.true_and]
      by_cases h1 : a[i].f1 = b[i].f1
      · rw [if_neg (by rw [h1]; simp)]
        by_cases h2 : a[i].f2 = b[i].f2
        · rw [if_pos h2, hj1]
          by_cases h3 : a[i].f3.length = b[i].f3.length
          · rw [if_neg (by simp [h3]), show k + a[i].f3.length + 2 = (k + 1) + a[i].f3.length + 1 by omega]
            have hl1 := rsame_l1 a b (i : Int) a[i].f0 a[i].f1 a[i].f2 a[i].f3 b[i].f0 b[i].f1 b[i].f2 b[i].f3 h3 (hin _ (List.getElem_mem hl)) (k + 1) a[i].f3.length 0 (by omega) (by omega)
            rw [List.drop_zero, List.drop_zero] at hl1
            rw [show (0 : Int) = ((0 : Nat) : Int) from rfl, hl1, show wrap64 ((i : Int) + 1) = ((i + 1 : Nat) : Int) by rw [w64_in' _ (by omega) (by omega)]; rfl, ih (i + 1) (k + 1) (by omega) (by omega) (by omega)]
            cases eqTL a[i].f3 b[i].f3 <;> simp [h1, h2]
          · rw [if_pos (by simp; omega), eqTL_len h3]
            simp
        · rw [if_neg h2, hj1, if_pos rfl]
          simp [h2]
      · rw [if_pos (by simpa using h1), hj1, if_pos rfl]
        simp [h1]
    · rw [if_neg (fun h3 => h0 ((nm_toList_eq_iff _ _).1 h3)), hj1, if_pos rfl, decide_eq_false h0, Bool.false_and, Bool.false_and]
theorem rsame_is (a b : List S24) (hm : a.length ≤ 9223372036854775807) (hin : ∀ x ∈ a, x.f3.length ≤ 9223372036854775807) (k : Nat) (hk : needP a + 1 ≤ k) : chicaneref14_Same.f k a b = some (eqPL a b) := by
  unfold chicaneref14_Same.f
  by_cases h : a.length = b.length
  · rw [if_pos (by omega)]
    have := rsame_l0 a b h hm hin a.length 0 k (by omega) (by omega) (by rw [List.drop_zero]; exact hk)
    rw [List.drop_zero, List.drop_zero] at this
    exact this
  · rw [if_neg (by omega), eqPL_len h]
theorem need_few (m : Nat) : ∀ (l : List S24), (∀ x ∈ l, x.f3.length ≤ m) → needP l ≤ l.length * (m + 4)
  | [], _ => by simp [needP]
  | x :: r, h => by
    have h1 := need_few m r (fun y hy => h y (List.mem_cons_of_mem _ hy))
    have h2 := h x List.mem_cons_self
    simp only [needP, List.map_cons, List.sum_cons, List.length_cons] at *
    rw [Nat.add_mul]
    omega
theorem rright_l0 (l : List S24) (hm : l.length ≤ 4611686018427387904) (hz : ∀ x ∈ l, szP x) : ∀ (k i : Nat), (l.length - i) + 41 < k → i ≤ l.length →
    chicaneref14_Right.l0 k l (i : Int) = some ((l.drop i).all (fun x => chkP x == 0) && (if i = 0 then sortedB (namesP l) else sortedB ((namesP l).drop (i - 1))) && decide (l.length ≤ 8)) := by
  intro k
  induction k with
  | zero => intro i h; omega
  | succ k ih =>
    intro i h hi
    unfold chicaneref14_Right.l0
    by_cases hl : i < l.length
    · rw [if_pos (by omega), if_pos (by omega), rdP_at l i hl, rchk_is _ (hz _ (List.getElem_mem hl)) k (by omega), Option.bind_some, List.drop_eq_getElem_cons hl]
      have hw : wrap64 ((i : Int) + 1) = ((i + 1 : Nat) : Int) := by rw [w64_in' _ (by omega) (by omega)]; rfl
      have hstep := ih (i + 1) (by omega) (by omega)
      rw [if_neg (by omega), Nat.add_sub_cancel] at hstep
      by_cases hc : chkP l[i] = 0
      · rw [if_pos hc]
        simp only [List.all_cons, hc, beq_self_eq_true, Bool.true_and]
        by_cases h0 : i = 0
        · subst h0
          rw [if_neg (by simp), if_pos rfl, hw, hstep]
          rfl
        · have hw2 : wrap64 ((i : Int) - 1) = ((i - 1 : Nat) : Int) := by rw [w64_in' _ (by omega) (by omega)]; omega
          have hl1 : i - 1 < l.length := by omega
          rw [if_pos (by omega), if_neg h0, hw2, if_pos (by omega), if_pos (by omega), rdP_at l (i - 1) hl1, hw]
          have hd : (namesP l).drop (i - 1) = l[i - 1].f0 :: (namesP l).drop i := by
            rw [namesP, List.drop_eq_getElem_cons (by simpa using hl1)]
            simp [show i - 1 + 1 = i by omega]
          have hd2 : (namesP l).drop i = l[i].f0 :: (namesP l).drop (i + 1) := by
            rw [namesP, List.drop_eq_getElem_cons (by simpa using hl)]; simp
          rw [hd, hd2, sortedB, sortedFrom]
          rw [hd2, sortedB] at hstep
          cases hb : ltS l[i - 1].f0 l[i].f0
          · rw [if_neg (show ¬ Op.bytesLess _ _ = true by rw [show Op.bytesLess _ _ = false from hb]; simp)]
            simp
          · rw [if_pos (show Op.bytesLess _ _ = true from hb), hstep, Bool.true_and]
      · rw [if_neg hc]
        have : (chkP l[i] == 0) = false := by simpa using hc
        rw [List.all_cons, this]
        simp only [Bool.false_and]
    · have hi2 : i = l.length := by omega
      rw [if_neg (by omega), List.drop_eq_nil_of_le (by omega)]
      have hs : (if i = 0 then sortedB (namesP l) else sortedB ((namesP l).drop (i - 1))) = true := by
        by_cases h0 : i = 0
        · rw [if_pos h0]
          have : l = [] := List.eq_nil_of_length_eq_zero (by omega)
          rw [this]; rfl
        · rw [if_neg h0]
          have hd : (namesP l).drop (i - 1) = [l[i - 1].f0] := by
            rw [namesP, List.drop_eq_getElem_cons (by simp; omega), List.drop_eq_nil_of_le (by simp; omega)]; simp
          rw [hd]; rfl
      rw [hs]
      simp only [List.all_nil, Bool.true_and, Option.some.injEq]
      rw [Bool.eq_iff_iff, decide_eq_true_eq, decide_eq_true_eq]
      omega
theorem rright_is (l : List S24) (hm : l.length ≤ 4611686018427387904) (hz : ∀ x ∈ l, szP x) (k : Nat) (hk : l.length + 42 ≤ k) : chicaneref14_Right.f k l = some (rightB l) := by
  have := rright_l0 l hm hz k 0 (by omega) (by omega)
  rw [List.drop_zero, if_pos rfl] at this
  exact this
end Go.Proofs.Ytlglbpjccpdloaa.Ext
set_option linter.unusedVariables false
set_option linter.unusedSimpArgs false
namespace Go.Proofs.Ytlglbpjccpdloaa.Ext
open Go.RowKit Go.Proofs.Ytlglbpjccpdloaa.PNamA Go.Proofs.Ytlglbpjccpdloaa.Tox Go.Proofs.Ytlglbpjccpdloaa.ToxZ Go.Proofs.YtlglbpjccpdloaaW.PrintWords Go.Proofs.YtlglbpjccpdloaaW.PrintLast
theorem place_at {l : List S24} {s : ByteArray} (h : ¬ place (namesP l) s < 0) : ∃ (k : Nat) (x : S24), place (namesP l) s = (k : Int) ∧ l[k]? = some x ∧ x.f0 = s := by
  rcases place_spec (namesP l) s with ⟨h1, _⟩ | ⟨k, h1, h2, _⟩
  · omega
  · rw [namesP, List.getElem?_map] at h2
    cases hx : l[k]? with
    | none => rw [hx] at h2; cases h2
    | some x => rw [hx] at h2; exact ⟨k, x, h1, hx, Option.some.inj h2⟩
theorem change_at (T : S24 → PT) {l : List S24} {s : ByteArray} {k : Nat} {x : S24} (h : rightB l = true) (hk : place (namesP l) s = (k : Int)) (hx : l[k]? = some x) : changeOf T l s = (l.set k (T x).1, (T x).2) := by
  unfold changeOf
  rw [if_pos h, if_neg (by omega), hk, Int.toNat_natCast, List.getD_eq_getElem?_getD, hx]
  rfl
theorem change_no (T : S24 → PT) {l : List S24} {s : ByteArray} (h : rightB l = true) (hk : place (namesP l) s < 0) : changeOf T l s = (l, 142) := by
  unfold changeOf
  rw [if_pos h, if_pos hk]
end Go.Proofs.Ytlglbpjccpdloaa.Ext
