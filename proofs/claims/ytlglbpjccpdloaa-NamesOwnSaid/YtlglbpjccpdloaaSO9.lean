/- Gathered by a program of this session (shake.py): what the claim's theorem needs. -/
import Derived.Test.YtlglbpjccpdloaaSO1
import Derived.Test.YtlglbpjccpdloaaSO8
import Derived.WalkKit
import Derived.ProofKit
import Derived.OpenShut
import Derived.ShutString
import Derived.ChangeOld
import Derived.Below
import Derived.SizedLaws
import Derived.Test.YtlglbpjccpdloaaRows
set_option linter.unusedVariables false
set_option linter.unusedSimpArgs false
namespace Go.Proofs.Ytlglbpjccpdloaa.NmLaw
end Go.Proofs.Ytlglbpjccpdloaa.NmLaw
namespace Go.Proofs.Ytlglbpjccpdloaa.PNamA
end Go.Proofs.Ytlglbpjccpdloaa.PNamA
namespace Go.Proofs.Ytlglbpjccpdloaa.Tox
end Go.Proofs.Ytlglbpjccpdloaa.Tox
namespace Go.Proofs.Ytlglbpjccpdloaa.ToxZ
end Go.Proofs.Ytlglbpjccpdloaa.ToxZ
namespace Go.Proofs.YtlglbpjccpdloaaW.PrintLast
end Go.Proofs.YtlglbpjccpdloaaW.PrintLast
namespace Go.Proofs.YtlglbpjccpdloaaW.PrintWords
end Go.Proofs.YtlglbpjccpdloaaW.PrintWords
set_option linter.unusedVariables false
set_option linter.unusedSimpArgs false
namespace Go.Proofs.Ytlglbpjccpdloaa.Ext
open Go.RowKit Go.Proofs.Ytlglbpjccpdloaa.PNamA Go.Proofs.Ytlglbpjccpdloaa.Tox Go.Proofs.Ytlglbpjccpdloaa.ToxZ Go.Proofs.Ytlglbpjccpdloaa.NmLaw Go.Proofs.YtlglbpjccpdloaaW.PrintWords Go.Proofs.YtlglbpjccpdloaaW.PrintLast
def lens (l : List S24) : List Nat := l.map (·.f3.length)
theorem lens_set {l : List S24} {i : Nat} {x y : S24} (hx : l[i]? = some x) (he : y.f3.length = x.f3.length) : lens (l.set i y) = lens l := by
  unfold lens
  rw [List.map_set]
  apply List.ext_getElem?
  intro j
  rw [List.getElem?_set]
  split
  · rename_i h; subst h
    rw [if_pos (by simpa using (List.getElem?_eq_some_iff.1 hx).1), List.getElem?_map, hx, he]
    rfl
  · rfl
theorem lens_len {a b : List S24} (h : lens a = lens b) : a.length = b.length := by
  have := congrArg List.length h
  simpa [lens] using this
theorem lens_at {a b : List S24} (h : lens a = lens b) {i : Nat} {x y : S24} (hx : a[i]? = some x) (hy : b[i]? = some y) : x.f3.length = y.f3.length := by
  have h1 : (lens a)[i]? = some x.f3.length := by simp [lens, hx]
  have h2 : (lens b)[i]? = some y.f3.length := by simp [lens, hy]
  rw [h, h2] at h1
  exact (Option.some.inj h1).symm
theorem own_l2 (l w : List S24) (m : Int) (i : Nat) (k : Nat) : ∀ (n j : Nat) (x : List S24) (y : S24), x[i]? = some y → y.f3.length - j = n → j ≤ y.f3.length → y.f3.length ≤ 1000000 → i ≤ 1000000 →
    ∃ x', lens x' = lens x ∧ chicanelaw14_NamesOwn.l2 (k + n + 1) l w x (i : Int) m (i : Int) (y.f3.length : Int) (j : Int) = chicanelaw14_NamesOwn.l1 k l w x' m ((i + 1 : Nat) : Int) := by
  intro n
  induction n with
  | zero =>
    intro j x y hx hn hj hy hi
    refine ⟨x, rfl, ?_⟩
    unfold chicanelaw14_NamesOwn.l2
    rw [if_neg (by omega), show wrap64 ((i : Int) + 1) = ((i + 1 : Nat) : Int) by rw [w64_in' _ (by omega) (by omega)]; rfl]
  | succ n ih =>
    intro j x y hx hn hj hy hi
    obtain ⟨hxl, hxe⟩ := List.getElem?_eq_some_iff.1 hx
    have hrd : rd_T24 x (i : Int) = y := by rw [rdP_at x i hxl, hxe]
    have hw : wrap64 ((j : Int) + 1) = ((j + 1 : Nat) : Int) := by rw [w64_in' _ (by omega) (by omega)]; rfl
    rw [show k + (n + 1) + 1 = (k + n + 1) + 1 by omega]
    unfold chicanelaw14_NamesOwn.l2
    rw [hrd, Int.toNat_natCast, Int.toNat_natCast, if_pos (by omega), if_pos (by omega), if_pos (by omega), if_pos (by omega), if_pos (by omega), hw]
    generalize hz : (⟨y.f0, y.f1, y.f2, y.f3.set j _⟩ : S24) = z
    have hzl : z.f3.length = y.f3.length := by rw [← hz]; simp
    obtain ⟨x', h1, h2⟩ := ih (j + 1) (x.set i z) z (by rw [List.getElem?_set, if_pos rfl, if_pos hxl]) (by omega) (by omega) (by omega) hi
    rw [hzl] at h2
    exact ⟨x', by rw [h1, lens_set hx hzl], h2⟩
def ownNeed (L : List Nat) : Nat := (L.map (· + 2)).sum
theorem own_l1 (l w : List S24) (hs : ∀ k, 200 ≤ k → chicaneref14_Same.f k l w = some true) (b : List S24) (hb : b.length ≤ 1000000) (hb3 : ∀ x ∈ b, x.f3.length ≤ 1000000) : ∀ (n i k : Nat) (x : List S24), lens x = lens b → b.length - i = n → i ≤ b.length → ownNeed ((lens b).drop i) + 201 ≤ k →
    chicanelaw14_NamesOwn.l1 k l w x (b.length : Int) (i : Int) = some true := by
  intro n
  induction n with
  | zero =>
    intro i k x hx hn hi hk
    obtain ⟨k, rfl⟩ : ∃ m, k = m + 1 := ⟨k - 1, by omega⟩
    unfold chicanelaw14_NamesOwn.l1
    rw [if_neg (by omega), alive_is k (by omega), Option.bind_some, if_pos rfl, hs k (by omega)]
    rfl
  | succ n ih =>
    intro i k x hx hn hi hk
    have hxlen := lens_len hx
    have hl : i < x.length := by omega
    have hlb : i < b.length := by omega
    have hlL : i < (lens b).length := by simpa [lens] using hlb
    have hLi : (lens b)[i] = b[i].f3.length := by simp [lens]
    have hneed : ownNeed ((lens b).drop i) = b[i].f3.length + 2 + ownNeed ((lens b).drop (i + 1)) := by
      unfold ownNeed
      rw [List.drop_eq_getElem_cons hlL, List.map_cons, List.sum_cons, hLi]
    have hlen := lens_at hx (List.getElem?_eq_getElem hl) (List.getElem?_eq_getElem hlb)
    have hb3i := hb3 _ (List.getElem_mem hlb)
    obtain ⟨k, rfl⟩ : ∃ m, k = m + (b[i].f3.length + 2) := ⟨k - (b[i].f3.length + 2), by omega⟩
    rw [show k + (b[i].f3.length + 2) = (k + b[i].f3.length + 1) + 1 by omega]
    unfold chicanelaw14_NamesOwn.l1
    rw [if_pos (by omega), if_pos (by omega), if_pos (by omega), Option.bind_some, rdP_at x i hl, Int.toNat_natCast]
    generalize hz : (⟨x[i].f0, x[i].f1, 1, x[i].f3⟩ : S24) = z
    have hzl : z.f3.length = x[i].f3.length := by rw [← hz]
    have hset : (x.set i z)[i]? = some z := by rw [List.getElem?_set, if_pos rfl, if_pos hl]
    have hrd : rd_T24 (x.set i z) (i : Int) = z := by
      obtain ⟨h1, h2⟩ := List.getElem?_eq_some_iff.1 hset
      rw [rdP_at _ i h1, h2]
    rw [hrd]
    obtain ⟨x', h1, h2⟩ := own_l2 l w (b.length : Int) i k b[i].f3.length 0 (x.set i z) z hset (by omega) (by omega) (by omega) (by omega)
    rw [show ((0 : Nat) : Int) = 0 from rfl] at h2
    rw [h2]
    exact ih (i + 1) k x' (by rw [h1, lens_set (List.getElem?_eq_getElem hl) hzl, hx]) (by omega) (by omega) (by omega)
theorem own_l0 (l : List S24) (hl : l.length ≤ 1000000) (hl3 : ∀ x ∈ l, x.f3.length ≤ 1000000) (o0 o1 : Int) (o2 o3 : ByteArray) (o4 : Bool) (o5 : ByteArray) (o6 : Int) (o7 : Bool) (o8 o9 o10 : Int) (k : Nat) : ∀ (n i : Nat), l.length - i = n → i ≤ l.length →
    chicanelaw14_NamesOwn.l0 (k + n + 1) l (l.take i) l (l.length : Int) (i : Int) o0 o1 o2 o3 o4 o5 o6 o7 o8 o9 o10 = (chicanelaw14_does.f k l o0 o1 o2 o3 o4 o5 o6 o7 o8 o9 o10).bind fun bt => chicanelaw14_NamesOwn.l1 k l l bt.1 (bt.1.length : Int) 0 := by
  intro n
  induction n with
  | zero =>
    intro i hn hi
    unfold chicanelaw14_NamesOwn.l0
    rw [if_neg (by omega), List.take_of_length_le (by omega)]
  | succ n ih =>
    intro i hn hi
    have hli : i < l.length := by omega
    have h3 := hl3 _ (List.getElem_mem hli)
    rw [show k + (n + 1) + 1 = (k + n + 1) + 1 by omega]
    unfold chicanelaw14_NamesOwn.l0
    rw [if_pos (by omega), if_pos (by omega), if_pos (by omega), Option.bind_some, rdP_at l i hli, if_pos (by simp; omega), if_pos (by rw [List.length_take]; omega), show wrap64 ((i : Int) + 1) = ((i + 1 : Nat) : Int) by rw [w64_in' _ (by omega) (by omega)]; rfl]
    have h1 := ih (i + 1) (by omega) (by omega)
    rw [List.take_add_one, List.getElem?_eq_getElem hli] at h1
    exact h1
theorem own_need_low {b : List S24} (h : lowP b) : ownNeed (lens b) ≤ 99 := by
  have key : ∀ (c : List S24), (∀ x ∈ c, x.f3.length ≤ 9) → ownNeed (lens c) ≤ c.length * 11 := by
    intro c
    induction c with
    | nil => intro _; simp [ownNeed, lens]
    | cons x r ih =>
      intro hc
      have h1 := ih (fun y hy => hc y (List.mem_cons_of_mem _ hy))
      have h2 := hc x List.mem_cons_self
      simp only [ownNeed, lens, List.map_cons, List.sum_cons, List.length_cons] at *
      rw [Nat.add_mul]
      omega
  have := key b h.2
  have := h.1
  omega
theorem same_refl {l : List S24} (h : rightB l = true) (k : Nat) (hk : 200 ≤ k) : chicaneref14_Same.f k l l = some true := by
  have h2 := right_len h
  have hn := need_few 8 l (fun x hx => chk_len (h2.2 x hx))
  rw [rsame_is l l (by omega) (fun x hx => by have := chk_len (h2.2 x hx); omega) k (by omega), (eqPL_iff l l).2 rfl]
theorem own_j0 (l : List S24) (q : Bool) (hq : q = false → rightB l = true) (o0 o1 : Int) (o2 o3 : ByteArray) (o4 : Bool) (o5 : ByteArray) (o6 : Int) (o7 : Bool) (o8 o9 o10 : Int) (k : Nat) (hk : 400 ≤ k) :
    chicanelaw14_NamesOwn.j0 k l q o0 o1 o2 o3 o4 o5 o6 o7 o8 o9 o10 = some true := by
  obtain ⟨k, rfl⟩ : ∃ m, k = m + 1 := ⟨k - 1, by omega⟩
  cases q with
  | true => simp only [chicanelaw14_NamesOwn.j0, alive_is k (by omega), Option.bind_some, if_true]
  | false =>
    have hr := hq rfl
    have h8 := (right_len hr).1
    have hl := low_right hr
    show (if (false : Bool) = true then ((chicanelaw14_alive.f k).bind fun t => some t) else chicanelaw14_NamesOwn.l0 k l ([] : List S24) l (l.length : Int) 0 o0 o1 o2 o3 o4 o5 o6 o7 o8 o9 o10) = some true
    rw [if_neg Bool.false_ne_true]
    have h0 := own_l0 l (by omega) (fun x hx => by have := hl.2 x hx; omega) o0 o1 o2 o3 o4 o5 o6 o7 o8 o9 o10 (k - l.length - 1) l.length 0 (by omega) (by omega)
    rw [show k - l.length - 1 + l.length + 1 = k by omega] at h0
    rw [show chicanelaw14_NamesOwn.l0 k l ([] : List S24) l (l.length : Int) 0 o0 o1 o2 o3 o4 o5 o6 o7 o8 o9 o10 = _ from h0, does_is l (by omega) _ (by omega), Option.bind_some]
    have hlow := low_do hr o0 o1 o2 o3 o4 ⟨o5, o6, o7, o8, o9, o10⟩
    have hnd := own_need_low hlow
    exact own_l1 l l (fun k hk => same_refl hr k hk) _ (by have := hlow.1; omega) (fun x hx => by have := hlow.2 x hx; omega) _ 0 _ _ rfl rfl (Nat.zero_le _) (by rw [List.drop_zero]; omega)
theorem own_is (l : List S24) (hm : l.length ≤ 9223372036854775807) (hz : ∀ x ∈ l, szP x) (o0 o1 : Int) (o2 o3 : ByteArray) (o4 : Bool) (o5 : ByteArray) (o6 : Int) (o7 : Bool) (o8 o9 o10 : Int) :
    chicanelaw14_NamesOwn.f (l.length + 500) l o0 o1 o2 o3 o4 o5 o6 o7 o8 o9 o10 = some true := by
  have ht : chicanelaw14_NamesOwn.j0 (l.length + 500) l true o0 o1 o2 o3 o4 o5 o6 o7 o8 o9 o10 = some true := own_j0 l true (fun h => by cases h) _ _ _ _ _ _ _ _ _ _ _ _ (by omega)
  unfold chicanelaw14_NamesOwn.f
  rw [few_is l hm _ (by omega), Option.bind_some]
  cases hf : fewB l with
  | false =>
    rw [if_neg Bool.false_ne_true]
    exact ht
  | true =>
    have hl := (few_at hf).1
    have hk : ∃ b, chicanelaw14_kind.f o0 o1 o2 o3 o4 o5 o6 o7 o8 o9 o10 = some b := by
      unfold chicanelaw14_kind.f
      repeat' split
      all_goals exact ⟨_, rfl⟩
    obtain ⟨b, hb⟩ := hk
    rw [if_pos rfl, hb, Option.bind_some]
    cases b with
    | false =>
      rw [if_neg Bool.false_ne_true]
      exact ht
    | true =>
      rw [if_pos rfl, rright_is l (by omega) hz _ (by omega), Option.bind_some]
      exact own_j0 l (!rightB l) (fun h => by cases hr : rightB l <;> simp_all) _ _ _ _ _ _ _ _ _ _ _ _ (by omega)
end Go.Proofs.Ytlglbpjccpdloaa.Ext
namespace Go.Proofs.Ytlglbpjccpdloaa.namesOwn
open Go.ChangeShapes Go.WideShapes Go.ChangeAt Go.RowKit
open Go.ChangeMaps (open_string shut_string)
set_option linter.unusedVariables false
theorem own : ownKnob Try.prog.godebug = none := by kernel_rfl
theorem laidOut : laidOutB Try.prog = true := by kernel_rfl
set_option maxRecDepth 100000 in
theorem lifted (os : Os) (started : os.Started) (H : Type) (enc : TypeId × Value → H) :
    ReturnsInHanded {} Try.checked os 6 .any (Rows.namesOwnSpec.pre6 enc Try.prog Try.f6 Rows.namesOwnRow.domain false) (Rows.namesOwnSpec.post enc Try.prog Try.f6 false true false false) := by
  refine returnsInHanded_of_change_sized (C := Try.checked) own started (by kernel_rfl) Try.func6
    (ChangeSpec.witness6 (enc := enc) (C := Try.checked) false ⟨#[], #[.slice none 0 0, .agg #[.int .i64 0, .int .i64 0, .string ByteArray.empty, .string ByteArray.empty, .bool false, .string ByteArray.empty, .int .i64 0, .bool false, .int .i64 0, .int .i64 0, .int .i64 0]], []⟩ 8 (by kernel_rfl) (by kernel_rfl) (by kernel_rfl) (by kernel_rfl)) ?_
  intro W base args ds gs before hval0 hW hcnd hsz0 _
  have hsz : (DataW.weightsEach Try.prog (Try.f6.params.toList ++ Rows.namesOwnSpec.plain.varTypes Try.prog) (ds ++ gs)).all (· ≤ reachBytes) = true := hsz0
  have hval : ∀ (j : Nat) t v, Try.f6.params[j]? = some t → args[j]? = some v → Value.okWide Try.prog W .any base t v := hval0
  have hW' := hW
  obtain ⟨p, q, hA0, hV, rfl, hfz, hnd⟩ := hW
  have hA : DataW.TrodAll enc Try.prog W 0 (fun _ => true) true Try.f6.params.toList args.toList ds p := hA0
  rw [Try.params6] at hA hval hsz
  obtain ⟨v0, vs0, d0, ds0, p0, q0, hargs, rfl, rfl, h0, r0'⟩ := trodAll_cons hA
  obtain ⟨v1, vs1, d1, ds1, p1, q1, rfl, rfl, rfl, h1, r1'⟩ := trodAll_cons r0'
  obtain ⟨rfl, rfl, rfl⟩ := trodAll_nil r1'
  obtain rfl : args = #[v0, v1] := by cases args; simp_all
  obtain ⟨rfl, rfl⟩ := trodVars_none hV
  have k0 := h0
  have lt0 : ∀ x ∈ p0, x.block < W.heap.size := by obtain ⟨m, hm⟩ := k0; exact DataW.trod_lt m _ _ _ hm
  obtain ⟨Ax0, len0, cap0, hv0⟩ := okWide_slice Try.underlying26 (hval 0 26 v0 rfl rfl)
  obtain ⟨A0, cp0, l0, rfl, hc0, r0, m0, e0⟩ := Arg.proxies_arg h0 ⟨_, _, _, hv0⟩
  have k1 := h1
  have lt1 : ∀ x ∈ p1, x.block < W.heap.size := by obtain ⟨m, hm⟩ := k1; exact DataW.trod_lt m _ _ _ hm
  obtain ⟨c1, rfl, _⟩ := okWide_struct Try.underlying48 (hval 1 48 v1 rfl rfl)
  obtain ⟨o10, o11, o12, o13, o14, t1, rfl, e1⟩ := Arg.op_arg h1
  clear hA0 hval0 hsz0 hsz
  refine (PNamA.chicanelaw14_NamesOwn.calls (l0.length + 500) A0 cp0 l0 o10 o11 o12 o13 o14 t1.f0 t1.f1 t1.f2 t1.f3 t1.f4 t1.f5 true W r0 hc0 rfl (Ext.own_is l0 m0 (fun x hx => ⟨(e0 x hx).1, fun t ht => ((e0 x hx).2.2 t ht).1⟩) o10 o11 o12 o13 o14 t1.f0 t1.f1 t1.f2 t1.f3 t1.f4 t1.f5)).mono fun e W' ⟨he, bel⟩ => ?_
  subst he
  exact ⟨_, rfl, _, _, _, [], _, [], hW', trodAll_mk1 (shut_bool Try.underlying4 _), (trodAll_cons_mk (Below.trod laidOut (by kernel_rfl) (of_decide_eq_true (by kernel_rfl)) k0 bel lt0) (trodAll_cons_mk (Below.trod laidOut (by kernel_rfl) (of_decide_eq_true (by kernel_rfl)) k1 bel lt1) trodAll_mk0)), rfl, bel.frame _, fun h => by cases h⟩
theorem over : Rows.namesOwnRow.holds Try.pinned (OpenSpec.ofChange Rows.namesOwnSpec) :=
  OpenClaim.holds_of_wide 6 Try.f6 rfl rfl rfl rfl rfl rfl rfl ⟨rfl, rfl, rfl, rfl, rfl⟩ rfl rfl rfl rfl rfl (by kernel_rfl) Try.func6 (by kernel_rfl)
    (of_decide_eq_true (by kernel_rfl)) (by unfold Func.isWrapper; first | (rw [if_pos (by decide +kernel)]; kernel_rfl) | (rw [if_neg (by decide +kernel)]; exact ⟨rfl, rfl⟩))
    (fun os started H enc _ => lifted os started H enc)
theorem proved : Rows.NamesOwnSaid := over
end Go.Proofs.Ytlglbpjccpdloaa.namesOwn
namespace Go.Proofs.Ytlglbpjccpdloaa
theorem namesOwn_holds : Rows.NamesOwnSaid := namesOwn.proved
end Go.Proofs.Ytlglbpjccpdloaa
