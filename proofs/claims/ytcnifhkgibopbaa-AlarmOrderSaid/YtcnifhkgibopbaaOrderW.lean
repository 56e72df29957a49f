/- The walk of AlarmOrder. -/
import Derived.Test.YtcnifhkgibopbaaAlarmJ
import Derived.Test.YtcnifhkgibopbaaHeapP
import Derived.Deep.OwnRows
set_option linter.unusedVariables false
set_option linter.unusedSimpArgs false
namespace Go.Proofs.Ytcnifhkgibopbaa
open Go.RowKit Go.MapKept Go.ChangeMaps

def int1 (x : Int) : List Value := [.int .i64 x]
theorem flat_int1 (L : List Int) : flat int1 L = L.map (Value.int .i64) := by
  induction L with
  | nil => rfl
  | cons x r ih => simp only [flat, List.flatMap_cons, int1] at *; rw [ih]; rfl
theorem Rd.int_at {w : World} {v : Value} {L : List Int} (h : Rd int1 w v L) {k : Nat} {x : Int} (hk : L[k]? = some x) : ∃ b o c, v = .slice (some ⟨b, o, none⟩) L.length c ∧ w.cell? ⟨b, o + k, none⟩ = some (.int .i64 x) := by
  obtain ⟨A, c, rfl, h1, h2, h3⟩ := h
  obtain ⟨b, o, rfl, hc⟩ := h3 (by have := (List.getElem?_eq_some_iff.1 hk).1; omega)
  exact ⟨b, o, c, rfl, hc _ _ (by rw [flat_int1, List.getElem?_map, hk]; rfl)⟩

/-- Is it a right tick? -/
def rightB (x : Int) : Bool := decide (0 ≤ x) && decide (x ≤ 1099511627776)
/-- The numbers from 1 on. -/
def ids (n : Nat) : List Int := (List.range n).map fun i : Nat => (i : Int) + 1
structure Good (L : List D2) (n : Nat) : Prop where
  heap : Heap L
  ids : (L.map (·.2)).Perm (ids n)
  ticks : ∀ d ∈ L, 0 ≤ d.1 ∧ d.1 ≤ 1099511627776
theorem mem_ids {n : Nat} {x : Int} : x ∈ ids n ↔ 1 ≤ x ∧ x ≤ n := by
  unfold ids
  simp only [List.mem_map, List.mem_range]
  constructor
  · rintro ⟨i, hi, rfl⟩; omega
  · intro h; exact ⟨(x - 1).toNat, by omega, by omega⟩
theorem Good.len {L : List D2} {n : Nat} (h : Good L n) : L.length = n := by
  have := h.ids.length_eq
  simpa [Go.Proofs.Ytcnifhkgibopbaa.ids] using this
theorem Good.id {L : List D2} {n : Nat} (h : Good L n) : ∀ d ∈ L, 1 ≤ d.2 ∧ d.2 ≤ n := fun d hd => mem_ids.1 (h.ids.mem_iff.1 (List.mem_map.2 ⟨d, hd, rfl⟩))
theorem Good.nodup {L : List D2} {n : Nat} (h : Good L n) : (L.map (·.2)).Nodup := by
  rw [h.ids.nodup_iff]
  unfold Go.Proofs.Ytcnifhkgibopbaa.ids
  exact List.pairwise_map.2 ((List.nodup_range).imp fun h e => h (by omega))
theorem Good.nil : Good [] 0 := ⟨heap_nil, List.Perm.refl _, by simp⟩
theorem Good.set {L : List D2} {n : Nat} (h : Good L n) {x : Int} (hx : rightB x = true) : Good (setL L x ((n : Int) + 1)) (n + 1) := by
  simp only [rightB, Bool.and_eq_true, decide_eq_true_eq] at hx
  refine ⟨set_heap h.heap _ _, ?_, fun d hd => ?_⟩
  · refine ((set_perm' L x _).map _).trans ?_
    rw [List.map_append]
    unfold Go.Proofs.Ytcnifhkgibopbaa.ids
    rw [List.range_succ, List.map_append]
    exact List.Perm.append h.ids (List.Perm.refl _)
  · rcases List.mem_append.1 ((set_perm' L x _).mem_iff.1 hd) with hd | hd
    · exact h.ticks d hd
    · simp at hd; subst hd; exact hx

/-- What the first loop knows. -/
def OrderR (w : World) (pa : Nat) (len : Nat) (n i : Value) (wr : World) : Prop :=
  ∃ (k m : Nat) (L : List D2) (S : Nat → Prop), i = .int .i64 k ∧ n = .int .i64 m ∧ k ≤ len ∧ m ≤ k ∧ Alm wr pa L m S ∧ Good L m ∧ (∀ k, S k → w.heap.size ≤ k) ∧ Below w.heap.size w wr

theorem make_one {P : Program} (t e : TypeId) (z : Value) (bytes : Nat) (ht : P.underlying t = some (.slice e)) (hinfo : (P.info? e).map (fun i => (i.zero, i.size, i.bytes)) = some (some z, 1, bytes)) (hz : z.cells = #[z]) (hb0 : 0 < bytes)
    (m : Nat) (hn : m * bytes ≤ 281474976710656) :
    ∀ W : World, (Instr.makeSlice t (.int .i64 (m : Int)) (.int .i64 (m : Int))).run P W = .ok (.slice (some ⟨W.heap.size, 0, none⟩) m m) (W.alloc (.cells (madeCells #[z] m) e)) := by
  intro W
  have hm : m ≤ 281474976710656 := Nat.le_trans (Nat.le_mul_of_pos_right _ hb0) hn
  exact run_make_row' t e z bytes ht hinfo hz .i64 .i64 m (by rw [Nat.mul_comm]; exact hn) (by omega) W
theorem own_made1 (W : World) (e : TypeId) (z : Value) (m : Nat) (hm : m ≤ 9223372036854775807) :
    (W.alloc (.cells (madeCells #[z] m) e)).ownsRow 0 e 1 (.slice (some ⟨W.heap.size, 0, none⟩) m m) m (List.replicate m z) := by
  have h := World.ownsRow_lit (base := 0) (e := e) (size := 1) W (madeCells #[z] m) m (Nat.zero_le _) (by simpa [maxLen] using hm) (by simp [size_madeCells])
  rwa [toList_madeCells_one] at h
theorem Try.infoBool : (Try.prog.info? 4).map (fun i => (i.zero, i.size, i.bytes)) = some (some (.bool false), 1, 1) := by kernel_rfl

/-- What the second loop knows. -/
def OrderR2 (w : World) (pa gs m : Nat) (S : Nat → Prop) (vo : Value) (out : List D2) (i : Value) (wr : World) : Prop :=
  ∃ (k : Nat) (B : List Bool), i = .int .i64 k ∧ k ≤ out.length ∧ wr.ownsRow 0 4 1 (.slice (some ⟨gs, 0, none⟩) (m + 1) (m + 1)) (m + 1) (B.map Value.bool) ∧ B.length = m + 1 ∧
    (∀ j : Nat, B[j]? = some true → ∃ q d, q < k ∧ out[q]? = some d ∧ d.2 = (j : Int)) ∧ wr.ownsRow 0 33 2 vo out.length (flat due out) ∧ Alm wr pa [] m S ∧ Below w.heap.size w wr

theorem OrderR2.step {w wr W : World} {pa gs m q j nq : Nat} {S : Nat → Prop} {vo : Value} {out : List D2} {B : List Bool} {a : Int} (hq : q < out.length) (hd : out[q]? = some (a, (j : Int))) (hjl : j < m + 1)
    (hownB : wr.ownsRow 0 4 1 (.slice (some ⟨gs, 0, none⟩) (m + 1) (m + 1)) (m + 1) (B.map Value.bool)) (hBl : B.length = m + 1) (hBt : ∀ j : Nat, B[j]? = some true → ∃ q' d, q' < q ∧ out[q']? = some d ∧ d.2 = (j : Int))
    (hownO : wr.ownsRow 0 33 2 vo out.length (flat due out)) (hne : ∀ g, vo.ownBlock = some g → g ≠ gs) (hA : Alm wr pa [] m S) (hS : ∀ k, S k → k ≠ gs) (hB : Below w.heap.size w wr) (hgs : w.heap.size ≤ gs)
    (hW : W = ((wr.alloc (.cells #[.int .i64 a, .int .i64 j] 33)).drewN nq).setCell ⟨gs, j, none⟩ (.bool true)) (i : Value) (hi : i = .int .i64 ((q : Int) + 1)) :
    OrderR2 w pa gs m S vo out i W := by
  subst hW
  have hb : Below wr.heap.size wr ((wr.alloc (.cells #[.int .i64 a, .int .i64 j] 33)).drewN nq) := below_drewN ((Below.refl _ _).alloc (Nat.le_refl _) _) nq
  have ho : Only (fun k => k = gs) ((wr.alloc (.cells #[.int .i64 a, .int .i64 j] 33)).drewN nq) (((wr.alloc (.cells #[.int .i64 a, .int .i64 j] 33)).drewN nq).setCell ⟨gs, j, none⟩ (.bool true)) :=
    (Only.refl (fun k => k = gs) _).setCell (p := ⟨gs, j, none⟩) (.inl rfl) _
  have hown1 := (Only.of_below (S := fun _ => False) hb).own hownB fun _ _ x => x
  refine ⟨q + 1, B.set j true, by rw [hi]; go_num, by omega, ?_, by simp [hBl], fun j' hj' => ?_, ?_, (hA.below hb).other ho fun k hk e => hS k hk e, ?_⟩
  · have := (hown1.stored j (.bool true)).1
    rw [List.map_set]
    exact this
  · rw [List.getElem?_set] at hj'
    by_cases e : j = j'
    · subst e
      exact ⟨q, _, by omega, hd, rfl⟩
    · rw [if_neg e] at hj'
      obtain ⟨q', d, h1, h2, h3⟩ := hBt j' hj'
      exact ⟨q', d, by omega, h2, h3⟩
  · exact ho.own ((Only.of_below (S := fun _ => False) hb).own hownO fun _ _ x => x) fun g hg e => hne g hg e
  · exact (hB.trans (hb.mono hB.size)).setCell hgs _

set_option maxRecDepth 100000 in
set_option maxHeartbeats 800000 in
theorem order_walk (v : Value) (l : List Int) (w : World) (h : Rd int1 w v l) :
    Calls Try.prog 3 #[v] w fun e w' => e = .returned (.bool true) ∧ Below w.heap.size w w' := by
  have HH := Lib.hid h
  obtain ⟨A, c, rfl, h1, h2, h3⟩ := h
  clear h3
  by_cases hlen : 300 < l.length
  · go_enter Try.func3, Try.ntmps3
    go_wp2_with fail
    refine (new_any _).mono ?_
    rintro e w1 ⟨pa, S1, rfl, ha1, hs1, hb1⟩
    have HB1 := Lib.hid hb1
    clear ha1 hs1 hb1
    go_wp2_with fail
    refine (alive_any _).mono ?_
    rintro e w2 ⟨rfl, hb2⟩
    go_wp2_with fail
    go_ret
    exact ⟨rfl, HB1.out.trans (hb2.mono HB1.out.size)⟩
  · go_enter Try.func3, Try.ntmps3
    go_wp2_with fail
    refine (new_any _).mono ?_
    rintro e w1 ⟨pa, S1, rfl, ha1, hs1, hb1⟩
    have H1 := Lib.hid (And.intro ha1 (And.intro hs1 hb1))
    clear ha1 hs1 hb1
    go_wp2_with fail
    go_loopw [4, 28] (fun n i wr => OrderR w pa l.length n i wr) (fun _ i wr => l.length - (intOf i).toNat)
    case atStart => exact ⟨0, 0, [], S1, rfl, rfl, Nat.zero_le _, Nat.le_refl _, H1.out.1, Good.nil, H1.out.2.1, H1.out.2.2⟩
    case round =>
      obtain ⟨k, m, L, S, rfl, rfl, hk, hmk, hA, hG, hS, hB⟩ := hrel
      have HA := Lib.hid hA
      have HG := Lib.hid hG
      have HS := Lib.hid hS
      have HB := Lib.hid hB
      have hlL := hG.len
      have HLL := Lib.hid hlL
      clear hA hG hS hB hlL
      by_cases hkl : k < l.length
      · obtain ⟨x, hx⟩ : ∃ x, l[k]? = some x := ⟨_, List.getElem?_eq_getElem hkl⟩
        obtain ⟨b, o, c', hv, c0⟩ := (HH.out.below HB.out).int_at hx
        cases hv
        have hkl' : (k : Int) < (l.length : Int) := by omega
        clear hx
        cases hr : rightB x with
        | true =>
          have HR := Lib.hid hr
          clear hr
          go_wp2_with fail
          refine (set_yes pa x L m S _ HA.out HR.out (by have := HLL.out; omega) (by omega) (by omega) (fun d hd => (HG.out.id d hd).2)).mono ?_
          rintro e w2 ⟨rfl, S2, h2, hs2, ho2⟩
          have hb2 := below_of_only HB.out ho2 HB.out.size HS.out
          have hs2' : ∀ k, S2 k → w.heap.size ≤ k := fun k hk => by
            rcases hs2 k hk with h | h
            · exact HS.out k h
            · have := HB.out.size; omega
          have H2 := Lib.hid (And.intro h2 (And.intro hs2' hb2))
          clear h2 hs2 ho2 hb2 hs2'
          go_wp2_with fail
          go_roundw
          case rel => exact ⟨k + 1, m + 1, setL L x (m + 1), S2, by go_num, by go_num, by omega, by omega, by have := H2.out.1; simpa using this, HG.out.set HR.out, H2.out.2.1, H2.out.2.2⟩
          case measure => simp [intOf]; omega
        | false =>
          have HR := Lib.hid hr
          clear hr
          go_wp2_with fail
          refine (set_arg pa x _ HR.out).mono ?_
          rintro e w2 ⟨rfl, rfl⟩
          go_wp2_with fail
          go_roundw
          case rel => exact ⟨k + 1, m, L, S, by go_num, rfl, by omega, by omega, HA.out, HG.out, HS.out, HB.out⟩
          case measure => simp [intOf]; omega
      · go_wp2_with fail
        refine (take_any pa 1099511627776 L m S _ HA.out).mono ?_
        rintro e w2 ⟨vo, rfl, hown2, hne2, h2, ho2⟩
        have hspec := take_spec L.length 1099511627776 L (Nat.le_refl _) HG.out.heap
        obtain ⟨out, hout⟩ : ∃ out, out = (takeL L.length 1099511627776 L).1 := ⟨_, rfl⟩
        have hrest : (takeL L.length 1099511627776 L).2 = [] := by
          rcases List.eq_nil_or_concat (takeL L.length 1099511627776 L).2 with h | ⟨r, d, h⟩
          · exact h
          · have hd : d ∈ (takeL L.length 1099511627776 L).2 := by rw [h]; simp
            have h1 := hspec.2.2.2.1 d hd
            have h2 := HG.out.ticks d (hspec.1.mem_iff.1 (List.mem_append_right _ hd))
            omega
        rw [hrest, ← hout] at hspec
        rw [hrest] at h2
        rw [← hout] at hown2
        simp only [List.append_nil] at hspec
        have hol : out.length = m := by rw [hspec.1.length_eq, HLL.out]
        have hgo : ∀ d ∈ out, 1 ≤ d.2 ∧ d.2 ≤ m := fun d hd => HG.out.id d (hspec.1.mem_iff.1 hd)
        have hnd : (out.map (·.2)).Nodup := ((hspec.1.map _).nodup_iff).2 HG.out.nodup
        have hb2 := below_of_only HB.out ho2 HB.out.size HS.out
        have HSORT := Lib.hid hspec.2.1
        have HGO := Lib.hid hgo
        have HND := Lib.hid hnd
        have HOL := Lib.hid hol
        have H2 := Lib.hid (And.intro h2 (And.intro hb2 hown2))
        have hlows : ∀ k, S k → k < w2.heap.size := by obtain ⟨_, _, _, hw, _⟩ := h2; exact hw.low
        have HLOWS := Lib.hid hlows
        clear hlows
        obtain ⟨Ao, co, hvo⟩ : ∃ A c, vo = .slice A out.length c := by
          rcases hown2.2 with ⟨rfl, h0⟩ | ⟨g, cap, cur, rfl, _⟩
          · exact ⟨none, 0, by rw [h0]⟩
          · exact ⟨_, cap, rfl⟩
        have hcapo : out.length ≤ co := by
          rw [hvo] at hown2
          obtain ⟨_, c2, hv, h, _⟩ := Rd.of_own due_length hown2
          cases hv; exact h
        clear hspec hout hrest hown2 hne2 h2 ho2 hol hgo hnd hb2
        subst hvo
        obtain ⟨mm, hmm⟩ : ∃ mm, mm = m + 1 := ⟨_, rfl⟩
        have em : (m : Int) + 1 = (mm : Int) := by omega
        have hmk := make_one 31 4 (.bool false) 1 Try.underlying31 Try.infoBool rfl (by omega) mm (by omega)
        have HMM := Lib.hid hmm
        clear hmm
        go_wp2_with fail
        clear hmk em
        go_loopw [53] (fun i wr => OrderR2 w pa w2.heap.size m S (.slice Ao out.length co) out i wr) (fun i wr => out.length - (intOf i).toNat)
        case atStart =>
          refine ⟨0, List.replicate (m + 1) false, rfl, Nat.zero_le _, ?_, by simp, fun j hj => ?_, H2.out.2.2.alloc _, H2.out.1.below ((Below.refl _ _).alloc (Nat.le_refl _) _), H2.out.2.1.alloc H2.out.2.1.size _⟩
          · have := own_made1 w2 4 (.bool false) mm (by have := HMM.out; omega)
            rw [HMM.out] at this ⊢
            simpa using this
          · rw [List.getElem?_replicate] at hj
            split at hj <;> simp at hj
        case round =>
          obtain ⟨q, B, rfl, hq, hownB, hBl, hBt, hownO, hA3, hB3⟩ := hrel
          have HB3 := Lib.hid hB3
          have HA3 := Lib.hid hA3
          have HBT := Lib.hid hBt
          have HOB := Lib.hid hownB
          have HOO := Lib.hid hownO
          have HBL := Lib.hid hBl
          clear hB3 hA3 hBt hownB hownO hBl
          by_cases hql : q < out.length
          · obtain ⟨d, hd⟩ : ∃ d, out[q]? = some d := ⟨_, List.getElem?_eq_getElem hql⟩
            obtain ⟨g1, g2⟩ := HGO.out d (List.mem_of_getElem? hd)
            obtain ⟨j, hj⟩ : ∃ j : Nat, d.2 = (j : Int) := ⟨d.2.toNat, by omega⟩
            obtain ⟨a, dj⟩ := d
            simp only at hj g1 g2
            subst hj
            have hjl : j < m + 1 := by omega
            obtain ⟨bo, oo, co', hv, c0, c1⟩ := (Rd.of_own due_length HOO.out).at_ hd
            cases hv
            have hfresh : B[j]? = some false := by
              obtain ⟨x, hx⟩ : ∃ x, B[j]? = some x := ⟨_, List.getElem?_eq_getElem (by rw [HBL.out]; omega)⟩
              cases x with
              | false => exact hx
              | true =>
                obtain ⟨q', d', hq', hd', he⟩ := HBT.out j hx
                have e1 : (out.map (·.2))[q']? = some (j : Int) := by rw [List.getElem?_map, hd']; simp [he]
                have e2 : (out.map (·.2))[q]? = some (j : Int) := by rw [List.getElem?_map, hd]; rfl
                obtain ⟨l1, f1⟩ := List.getElem?_eq_some_iff.1 e1
                obtain ⟨l2, f2⟩ := List.getElem?_eq_some_iff.1 e2
                have := (List.getElem_inj HND.out).1 (f1.trans f2.symm)
                omega
            have cb := HOB.out.cellAt j (by omega)
            rw [List.getElem?_map, hfresh] at cb
            simp only [Option.map_some] at cb
            have fb := HOB.out.frozenAt j
            have HD := Lib.hid hd
            have HF := Lib.hid hfresh
            have k0 : ¬ (j : Int) < 1 := by omega
            have k1 : ¬ (m : Int) < (j : Int) := by omega
            have k2 : (j : Int) < (mm : Int) := by have := HMM.out; omega
            have b0 : decide ((j : Int) < 1) = false := by simp; omega
            have b1 : decide (m < j) = false := by simp; omega
            have lb := World.block_lt_of_cell? _ _ cb
            have lo := World.block_lt_of_cell? _ _ c0
            have kq : (q : Int) < (out.length : Int) := by omega
            have kq1 : q < 1000 := by have := HOL.out; omega
            clear hd hfresh
            by_cases hq0 : 0 < q
            · obtain ⟨p, hp⟩ : ∃ p, q = p + 1 := ⟨q - 1, by omega⟩
              obtain ⟨d', hd'⟩ : ∃ d, out[p]? = some d := ⟨_, List.getElem?_eq_getElem (by omega)⟩
              obtain ⟨g1', g2'⟩ := HGO.out d' (List.mem_of_getElem? hd')
              obtain ⟨j', hj'⟩ : ∃ j : Nat, d'.2 = (j : Int) := ⟨d'.2.toNat, by omega⟩
              obtain ⟨a', dj'⟩ := d'
              simp only at hj' g1' g2'
              subst hj'
              obtain ⟨bo', oo', co'', hv, c0', c1'⟩ := (Rd.of_own due_length HOO.out).at_ hd'
              cases hv
              have hle : le (a', (j' : Int)) (a, (j : Int)) := by
                have := List.pairwise_iff_getElem.1 HSORT.out p q (by omega) hql (by omega)
                rw [(List.getElem?_eq_some_iff.1 hd').2, (List.getElem?_eq_some_iff.1 HD.out).2] at this
                exact this
              have hjj : j' ≠ j := by
                intro e
                have e1 : (out.map (·.2))[p]? = some (j : Int) := by rw [List.getElem?_map, hd', e]; rfl
                have e2 : (out.map (·.2))[q]? = some (j : Int) := by rw [List.getElem?_map, HD.out]; rfl
                obtain ⟨l1, f1⟩ := List.getElem?_eq_some_iff.1 e1
                obtain ⟨l2, f2⟩ := List.getElem?_eq_some_iff.1 e2
                have := (List.getElem_inj HND.out).1 (f1.trans f2.symm)
                omega
              have ep : (q : Int) - 1 = (p : Int) := by omega
              have kp : (p : Int) < (out.length : Int) := by omega
              have b2 : decide (a < a') = false := by unfold le at hle; simp; omega
              have kq0 : (0 : Int) < (q : Int) := by omega
              have b3 : decide (0 < q) = true := by simpa using hq0
              have ew : IntKind.i64.wrap (p : Int) = (p : Int) := IntWalk.i64_in _ (by have := HOL.out; omega)
              have HP := Lib.hid hp
              clear hp hd'
              by_cases haa : a' = a
              · have b4 : ((a' : Int) == a) = true := by simpa using haa
                have b5 : decide (j ≤ j') = false := by unfold le at hle; simp; omega
                clear haa hle hjj
                go_wp2_with fail
                go_quiet (fail)
                go_wp2_with fail
                go_roundw
                case rel =>
                  exact OrderR2.step hql HD.out hjl HOB.out HBL.out HBT.out HOO.out (fun g hg e => by simp [Value.ownBlock] at hg; have := (H2.out.2.2.lt g (by simp [Value.ownBlock, hg])).2; omega) HA3.out (fun k hk e => by have := HLOWS.out k hk; omega) HB3.out H2.out.2.1.size rfl _ (by first | rfl | simp)
                case measure => simp [intOf]; omega
              · have b4 : ((a' : Int) == a) = false := by simpa using haa
                clear haa hle hjj
                go_wp2_with fail
                go_quiet (fail)
                go_wp2_with fail
                go_roundw
                case rel =>
                  exact OrderR2.step hql HD.out hjl HOB.out HBL.out HBT.out HOO.out (fun g hg e => by simp [Value.ownBlock] at hg; have := (H2.out.2.2.lt g (by simp [Value.ownBlock, hg])).2; omega) HA3.out (fun k hk e => by have := HLOWS.out k hk; omega) HB3.out H2.out.2.1.size rfl _ (by first | rfl | simp)
                case measure => simp [intOf]; omega
            · obtain rfl : q = 0 := by omega
              simp only [Nat.zero_mul, Nat.add_zero] at c0 c1
              go_wp2_with fail
              go_quiet (fail)
              go_wp2_with fail
              go_roundw
              case rel =>
                exact OrderR2.step hql HD.out hjl HOB.out HBL.out HBT.out HOO.out (fun g hg e => by simp [Value.ownBlock] at hg; have := (H2.out.2.2.lt g (by simp [Value.ownBlock, hg])).2; omega) HA3.out (fun k hk e => by have := HLOWS.out k hk; omega) HB3.out H2.out.2.1.size rfl _ (by first | rfl | simp)
              case measure => simp [intOf]; omega
          · go_wp2_with fail
            refine (alive_any _).mono ?_
            rintro e w4 ⟨rfl, hb4⟩
            have he : ((out.length : Int) == (m : Int)) = true := by have := HOL.out; simp; omega
            have he2 : (out.length == m) = true := by have := HOL.out; simp; omega
            go_wp2_with fail
            refine (len_any pa [] _ S _ (HA3.out.below hb4)).mono ?_
            rintro e w5 ⟨rfl, rfl⟩
            go_wp2_with fail
            go_ret
            exact ⟨rfl, HB3.out.trans (hb4.mono HB3.out.size)⟩
end Go.Proofs.Ytcnifhkgibopbaa
