/- AlarmCopies: for every two scripts the law returns true and leaves its arguments as they were. -/
import Derived.Test.YtcnifhkgibopbaaRows
import Derived.Test.YtcnifhkgibopbaaCopiesW
import Derived.WalkKit
import Derived.ProofKit
import Derived.OpenShut
import Derived.ShutString
import Derived.ChangeOld
import Derived.Below
import Derived.SizedLaws
namespace Go.Proofs.Ytcnifhkgibopbaa.alarmCopies
open Go.ChangeShapes Go.WideShapes Go.ChangeAt Go.RowKit
open Go.ChangeMaps (open_string shut_string)
set_option linter.unusedVariables false

theorem own : ownKnob Try.prog.godebug = none := by kernel_rfl
theorem laidOut : laidOutB Try.prog = true := by kernel_rfl
theorem big_slice {H : Type} {enc : TypeId × Value → H} {P : Program} {ts : List TypeId} {ds : List (DataW H)} (hsz : (DataW.weightsEach P ts ds).all (· ≤ reachBytes) = true) {j : Nat} {t e : TypeId} {d : DataW H} (hj : ts[j]? = some t) (hd : ds[j]? = some d) (hu : P.underlying t = some (.slice e)) (hb : 1 ≤ P.bytesOf e)
    {w : World} {base : Nat} {sp : Nat → Bool} {held : Bool} {A : Option Addr} {len cap : Nat} {ps : List MemPlace} (h : DataW.Trod enc P w base sp held t (.slice A len cap) d ps) : len ≤ 140737488351232 := by
  obtain ⟨m, hm⟩ := h
  rcases Go.Deep.open_slice hu hm with ⟨h1, h2⟩ | ⟨a, len', cap', m', n, D, Pl, h1, hb', hl, hm', hmm, hx, hi⟩
  · simp [Value.cells] at h1
    omega
  · simp [Value.cells] at h1
    obtain ⟨_, rfl, _⟩ := h1
    obtain ⟨rfl, _⟩ := Prod.mk.injEq _ _ _ _ ▸ hx
    have h3 := sized_slice hsz hj hd hu
    simp only [List.length_map, List.length_range] at h3
    have h4 : len * 1 ≤ (len + (m' - len)) * P.bytesOf e := Nat.mul_le_mul (by omega) hb
    have h5 : reachBytes = 140737488351232 := rfl
    omega
set_option maxRecDepth 100000 in
theorem lifted (os : Os) (started : os.Started) (H : Type) (enc : TypeId × Value → H) :
    ReturnsInHanded {} Try.checked os 9 .any (Rows.alarmCopiesSpec.pre6 enc Try.prog Try.f9 Rows.alarmCopiesRow.domain false) (Rows.alarmCopiesSpec.post enc Try.prog Try.f9 false true false false) := by
  refine returnsInHanded_of_change_sized (C := Try.checked) own started (by kernel_rfl) Try.func9
    (ChangeSpec.witness6 (enc := enc) (C := Try.checked) false ⟨#[], #[.slice none 0 0, .slice none 0 0], []⟩ 8 (by kernel_rfl) (by kernel_rfl) (by kernel_rfl) (by kernel_rfl)) ?_
  intro W base args ds gs before hval0 hW hcnd hsz0 _
  have hsz : (DataW.weightsEach Try.prog (Try.f9.params.toList ++ Rows.alarmCopiesSpec.plain.varTypes Try.prog) (ds ++ gs)).all (· ≤ reachBytes) = true := hsz0
  have hval : ∀ (j : Nat) t v, Try.f9.params[j]? = some t → args[j]? = some v → Value.okWide Try.prog W .any base t v := hval0
  have hW' := hW
  obtain ⟨p, q, hA0, hV, rfl, hfz, hnd⟩ := hW
  have hA : DataW.TrodAll enc Try.prog W 0 (fun _ => true) true Try.f9.params.toList args.toList ds p := hA0
  rw [Try.params9] at hA hval hsz
  obtain ⟨v0, vs0, d0, ds0, p0, q0, hargs, rfl, rfl, h0, r0'⟩ := trodAll_cons hA
  obtain ⟨v1, vs1, d1, ds1, p1, q1, rfl, rfl, rfl, h1, r1'⟩ := trodAll_cons r0'
  obtain ⟨rfl, rfl, rfl⟩ := trodAll_nil r1'
  obtain rfl : args = #[v0, v1] := by cases args; simp_all
  obtain ⟨rfl, rfl⟩ := trodVars_none hV
  have k0 := h0
  have lt0 : ∀ x ∈ p0, x.block < W.heap.size := by obtain ⟨m, hm⟩ := k0; exact DataW.trod_lt m _ _ _ hm
  obtain ⟨A0, len0, cap0, rfl⟩ := okWide_slice Try.underlying36 (hval 0 36 v0 rfl rfl)
  obtain ⟨⟨v0', l0⟩, hc0, r0, e0⟩ := opn_ops.arg h0
  simp [Value.cells] at hc0
  subst hc0
  have g0 : l0.length ≤ 140737488351232 := by
    obtain ⟨A_, c_, hh_, _⟩ := r0
    have hl_ : len0 = l0.length := by injection hh_
    rw [← hl_]
    exact big_slice hsz (j := 0) rfl rfl Try.underlying36 (by decide +kernel) k0
  have k1 := h1
  have lt1 : ∀ x ∈ p1, x.block < W.heap.size := by obtain ⟨m, hm⟩ := k1; exact DataW.trod_lt m _ _ _ hm
  obtain ⟨A1, len1, cap1, rfl⟩ := okWide_slice Try.underlying36 (hval 1 36 v1 rfl rfl)
  obtain ⟨⟨v1', l1⟩, hc1, r1, e1⟩ := opn_ops.arg h1
  simp [Value.cells] at hc1
  subst hc1
  have g1 : l1.length ≤ 140737488351232 := by
    obtain ⟨A_, c_, hh_, _⟩ := r1
    have hl_ : len1 = l1.length := by injection hh_
    rw [← hl_]
    exact big_slice hsz (j := 1) rfl rfl Try.underlying36 (by decide +kernel) k1
  clear hA0 hval0 hsz0 hsz
  refine (copies_walk (.slice A0 len0 cap0) l0 (.slice A1 len1 cap1) l1 W r0 (fun o ho => (e0 o ho).2.2) r1 (fun o ho => (e1 o ho).2.2) ⟨by omega, by omega⟩).mono fun e W' ⟨he, bel⟩ => ?_
  subst he
  exact ⟨_, rfl, _, _, _, [], _, [], hW', trodAll_mk1 (shut_bool Try.underlying4 _), (trodAll_cons_mk (Below.trod laidOut (by kernel_rfl) (of_decide_eq_true (by kernel_rfl)) k0 bel lt0) (trodAll_cons_mk (Below.trod laidOut (by kernel_rfl) (of_decide_eq_true (by kernel_rfl)) k1 bel lt1) trodAll_mk0)), rfl, bel.frame _, fun h => by cases h⟩

theorem over : Rows.alarmCopiesRow.holds Try.pinned (OpenSpec.ofChange Rows.alarmCopiesSpec) :=
  OpenClaim.holds_of_wide 9 Try.f9 rfl rfl rfl rfl rfl rfl rfl ⟨rfl, rfl, rfl, rfl, rfl⟩ rfl rfl rfl rfl rfl (by kernel_rfl) Try.func9 (by kernel_rfl)
    (of_decide_eq_true (by kernel_rfl)) (by unfold Func.isWrapper; first | (rw [if_pos (by decide +kernel)]; kernel_rfl) | (rw [if_neg (by decide +kernel)]; exact ⟨rfl, rfl⟩))
    (fun os started H enc _ => lifted os started H enc)

theorem proved : Rows.AlarmCopiesSaid := over
#print axioms proved
end Go.Proofs.Ytcnifhkgibopbaa.alarmCopies
namespace Go.Proofs.Ytcnifhkgibopbaa
theorem alarmCopies_holds : Rows.AlarmCopiesSaid := alarmCopies.proved
end Go.Proofs.Ytcnifhkgibopbaa
