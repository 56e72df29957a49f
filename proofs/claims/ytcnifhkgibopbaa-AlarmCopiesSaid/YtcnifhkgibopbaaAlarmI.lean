/- The walks of Cancel, and of Check without alarms. -/
import Derived.Test.YtcnifhkgibopbaaAlarmH
set_option linter.unusedVariables false
set_option linter.unusedSimpArgs false
namespace Go.Proofs.Ytcnifhkgibopbaa
open Go.RowKit Go.MapKept Go.ChangeMaps

def findL (L : List D2) (id : Int) : Option Nat := L.findIdx? fun d => d.2 == id
theorem findL_some {L : List D2} {id : Int} {i : Nat} (h : findL L id = some i) : ∃ d, L[i]? = some d ∧ d.2 = id := by
  unfold findL at h
  obtain ⟨hi, h1, _⟩ := List.findIdx?_eq_some_iff_getElem.1 h
  exact ⟨L[i], List.getElem?_eq_getElem hi, by simpa using h1⟩
theorem Idx.find {L : List D2} {m : List (Int × Nat)} (h : Idx L m) (id : Int) : mget m id = findL L id := by
  cases hf : findL L id with
  | none =>
    cases hm : mget m id with
    | none => rfl
    | some i =>
      obtain ⟨d, hd, he⟩ := (h.get id i).1 hm
      unfold findL at hf
      rw [List.findIdx?_eq_none_iff] at hf
      have := hf d (List.mem_of_getElem? hd)
      simp [he] at this
  | some i =>
    obtain ⟨d, hd, he⟩ := findL_some hf
    exact (h.get id i).2 ⟨d, hd, he⟩

theorem zero_int (w : World) : (zeroValue 3).run Try.prog w = .ok (.int .i64 0) w := by kernel_rfl

theorem cancel_none (pa : Nat) (id : Int) (L : List D2) (last : Int) (S : Nat → Prop) (w : World) (h : Alm w pa L last S) (hid : iok id) (hf : findL L id = none) :
    Calls Try.prog 24 #[.pointer (some ⟨pa, 0, none⟩), .int .i64 id] w fun e w' => e = .returned (.bool false) ∧ w = w' := by
  obtain ⟨mb, v, m, hw, hx⟩ := h
  obtain ⟨_, a1, _, _, _, _⟩ := hw.heads
  have hrun := hw.map.lookup (int_like Try.underlying3) Try.underlying60 (zero_int w) id hid true
  rw [hx.find, hf] at hrun
  simp only [if_true, ik] at hrun
  clear hw hx hf hid
  go_enter Try.func24, Try.ntmps24
  go_wp2_with fail
  go_ret
  exact ⟨rfl, rfl⟩

theorem cancel_some (pa : Nat) (id : Int) (L : List D2) (last : Int) (S : Nat → Prop) (w : World) (h : Alm w pa L last S) (hid : iok id) (k : Nat) (hf : findL L id = some k) :
    Calls Try.prog 24 #[.pointer (some ⟨pa, 0, none⟩), .int .i64 id] w fun e w' => e = .returned (.bool true) ∧ Alm w' pa (dropL L k) last S ∧ Only S w w' := by
  have HH := Lib.hid h
  obtain ⟨mb, v, m, hw, hx⟩ := h
  obtain ⟨_, a1, _, _, _, _⟩ := hw.heads
  have hrun := hw.map.lookup (int_like Try.underlying3) Try.underlying60 (zero_int w) id hid true
  rw [hx.find, hf] at hrun
  simp only [if_true, ik, nk] at hrun
  have hk : k < L.length := by obtain ⟨d, hd, _⟩ := findL_some hf; exact (List.getElem?_eq_some_iff.1 hd).1
  clear hw hx hf hid
  go_enter Try.func24, Try.ntmps24
  go_wp2_with fail
  refine (drop_any pa k L last S _ HH.out hk _ rfl).mono ?_
  rintro e w1 ⟨rfl, h1, ho1⟩
  go_wp2_with fail
  go_ret
  exact ⟨rfl, h1, ho1⟩

set_option maxRecDepth 100000 in
theorem check_nil (pa : Nat) (last : Int) (S : Nat → Prop) (w : World) (h : Alm w pa [] last S) :
    Calls Try.prog 21 #[.pointer (some ⟨pa, 0, none⟩)] w fun e w' => e = .returned (.bool true) ∧ Below w.heap.size w w' := by
  obtain ⟨mb, v, m, hw, hx⟩ := h
  obtain ⟨A, c, rfl⟩ := hw.slice
  obtain ⟨a0, a1, _, _, _, _⟩ := hw.heads
  have hl := hx.len
  simp only [List.length_nil] at a0 hl
  have hlen : ∀ (w' : World), w'.heap = w.heap → (Builtin.len_ #[60] 3 #[.map (some mb)]).run Try.prog w' = .ok (.int .i64 0) w' := by
    intro w' hw'
    have hm : GMap Try.prog 3 ik iok nk w' mb m := hw.map.of_block (by rw [hw'])
    have := hm.len (ty := 3) Try.underlying60
    rw [hl] at this
    exact this
  have h1 := hlen w.drew rfl
  have h2 := hlen w rfl
  clear hw hx hl hlen
  go_enter Try.func21, Try.ntmps21
  go_wp2_with fail
  refine wp_loop_rounds 1 ?_
  rw [rounds_succ]
  go_wp2_with fail
  go_region
  go_wp2_with fail
  go_ret
  exact ⟨rfl, below_drewN (Below.refl _ _) 1⟩
end Go.Proofs.Ytcnifhkgibopbaa
