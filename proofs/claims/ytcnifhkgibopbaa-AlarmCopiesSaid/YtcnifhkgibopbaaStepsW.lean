/- AlarmSteps: the walk. -/
import Derived.Test.YtcnifhkgibopbaaListW
import Derived.Laws.AppendOwnNone
set_option linter.unusedVariables false
set_option linter.unusedSimpArgs false
namespace Go.Proofs.Ytcnifhkgibopbaa
open Go.RowKit Go.MapKept Go.ChangeMaps

/-- What is taken at one tick, and then at a later one. -/
theorem take_steps {L : List D2} (h : Heap L) (early late : Int) (he : early ≤ late) :
    (takeL L.length early L).1 ++ (takeL (takeL L.length early L).2.length late (takeL L.length early L).2).1 = (takeL L.length late L).1 ∧
    sortL (takeL (takeL L.length early L).2.length late (takeL L.length early L).2).2 = sortL (takeL L.length late L).2 := by
  obtain ⟨p1, s1, l1, g1, h1⟩ := take_spec L.length early L (Nat.le_refl _) h
  obtain ⟨p2, s2, l2, g2, h2⟩ := take_spec _ late (takeL L.length early L).2 (Nat.le_refl _) h1
  obtain ⟨p3, s3, l3, g3, h3⟩ := take_spec L.length late L (Nat.le_refl _) h
  generalize (takeL L.length early L).1 = x at *
  generalize (takeL L.length early L).2 = L1 at *
  generalize (takeL L1.length late L1).1 = y at *
  generalize (takeL L1.length late L1).2 = L2 at *
  generalize (takeL L.length late L).1 = z at *
  generalize (takeL L.length late L).2 = L3 at *
  have hpa : ((x ++ y) ++ L2).Perm (z ++ L3) := by
    rw [List.append_assoc]
    exact ((List.Perm.append_left x p2).trans p1).trans p3.symm
  have hxy : (x ++ y).Pairwise le := by
    rw [List.pairwise_append]
    refine ⟨s1, s2, fun a ha b hb => ?_⟩
    have h5 := l1 a ha
    have h6 := g1 b (p2.mem_iff.1 (List.mem_append_left _ hb))
    unfold le
    omega
  have f1 : ((x ++ y) ++ L2).filter (fun d => decide (d.1 ≤ late)) = x ++ y := by
    rw [List.filter_append, List.filter_eq_self.2, List.filter_eq_nil_iff.2, List.append_nil]
    · intro d hd; have := g2 d hd; simp; omega
    · intro d hd
      rcases List.mem_append.1 hd with hd | hd
      · have := l1 d hd; simp; omega
      · have := l2 d hd; simp; omega
  have f2 : (z ++ L3).filter (fun d => decide (d.1 ≤ late)) = z := by
    rw [List.filter_append, List.filter_eq_self.2, List.filter_eq_nil_iff.2, List.append_nil]
    · intro d hd; have := g3 d hd; simp; omega
    · intro d hd; have := l3 d hd; simp; omega
  have e1 : ((x ++ y) ++ L2).filter (fun d => !decide (d.1 ≤ late)) = L2 := by
    rw [List.filter_append, List.filter_eq_nil_iff.2, List.filter_eq_self.2, List.nil_append]
    · intro d hd; have := g2 d hd; simp; omega
    · intro d hd
      rcases List.mem_append.1 hd with hd | hd
      · have := l1 d hd; simp; omega
      · have := l2 d hd; simp; omega
  have e2 : (z ++ L3).filter (fun d => !decide (d.1 ≤ late)) = L3 := by
    rw [List.filter_append, List.filter_eq_nil_iff.2, List.filter_eq_self.2, List.nil_append]
    · intro d hd; have := g3 d hd; simp; omega
    · intro d hd; have := l3 d hd; simp; omega
  have pxy : (x ++ y).Perm z := by
    have := hpa.filter (fun d => decide (d.1 ≤ late))
    rw [f1, f2] at this
    exact this
  have pL : L2.Perm L3 := by
    have := hpa.filter (fun d => !decide (d.1 ≤ late))
    rw [e1, e2] at this
    exact this
  refine ⟨List.Perm.eq_of_pairwise (fun a b _ _ h k => le_antisymm' h k) hxy s3 pxy, ?_⟩
  exact sorted_eq ((sortL_perm L2).trans pL) (sortL_pair L2)

theorem append_due {ops : Array Oper} {rest : List Oper} {o : Oper} {a : Act} {Q : Exit → Act → World → Prop} {W : World} (hgd : o.guard = none) (s x : Operand)
    (ho : o.op = .call { callee := .builtin .append, args := #[s, x], argTypes := #[29, 29] }) (v x' : Value) (xs ys : List D2) (hs : a.eval s = v) (hx : a.eval x = x')
    (HO : W.ownsRow 0 33 2 v xs.length (flat due xs)) (HX : W.ownsRow 0 33 2 x' ys.length (flat due ys)) (hl : xs.length + ys.length ≤ 100000)
    (h : ∀ v1 w1, w1.ownsRow 0 33 2 v1 (xs ++ ys).length (flat due (xs ++ ys)) → W.grownBy w1 v.ownBlock → (v1.ownBlock = v.ownBlock ∨ v1.ownBlock = some W.heap.size) → wpList Try.prog ops Q rest (a.put o.dst v1) w1) :
    wpList Try.prog ops Q (o :: rest) a W := by
  obtain ⟨i0, hi, hzz⟩ := Option.map_eq_some_iff.1 Try.infoDue
  simp only [Prod.mk.injEq] at hzz
  obtain ⟨hz0, hz1, hz2⟩ := hzz
  have HX' := HX
  rcases HX.2 with ⟨rfl, h0⟩ | ⟨g, cap, cur, rfl, hb, hh, h1, h2, h3, h4⟩
  · have hy : ys = [] := List.eq_nil_of_length_eq_zero h0
    subst hy
    refine wpList_append_own_none hgd s x _ ho 0 33 i0 2 Try.underlying29 hi v xs.length (flat due xs) hs (by rw [hz1] at *; exact HO) hx ?_
    refine h v W ?_ ⟨rfl, rfl, rfl, Nat.le_refl _, fun _ _ _ => rfl⟩ (.inl rfl)
    rw [List.append_nil]
    exact HO
  · refine wpList_append_own_at W hgd s x _ ho 0 33 i0 (.agg #[.int .i64 0, .int .i64 0]) 2 16 Try.underlying29 hi hz0 hz1 hz2 rfl (by omega) v xs.length (flat due xs) hs HO
      ⟨g, 0, none⟩ ys.length cap (flat due ys) hx (flat_length due_length ys) (fun j u hu => ?_) (fun u hu => due_one ys u hu) (by simp only [maxLen]; omega) (by omega) (Nat.zero_le _) ?_
    · have hc : W.cell? ⟨g, 0 + j, none⟩ = some u := by
        obtain ⟨A, c, hv, _, _, hcell⟩ := Rd.of_own due_length HX'
        have hp : 0 < ys.length := by
          cases ys with
          | nil => simp [flat] at hu
          | cons y r => simp
        obtain ⟨b, o2, rfl, hcc⟩ := hcell hp
        simp only [Value.slice.injEq, Option.some.injEq, Addr.mk.injEq] at hv
        obtain ⟨⟨rfl, rfl, _⟩, _, _⟩ := hv
        exact hcc j u hu
      unfold Addr.add
      split
      · rename_i h0; subst h0; exact hc
      · exact hc
    · intro v1 w1 hown hg _ hat
      refine h v1 w1 ?_ hg hat
      rw [List.length_append, flat_append]
      exact hown

/-- What a loop over a script on two alarms knows. -/
def ScriptR2 (w : World) (pa pb : Nat) (len : Nat) (i : Value) (wr : World) : Prop :=
  ∃ (k : Nat) (L : List D2) (last : Int) (S T : Nat → Prop), i = .int .i64 k ∧ k ≤ len ∧ Alm wr pa L last S ∧ Alm wr pb L last T ∧ St L last k ∧ (∀ k, S k → w.heap.size ≤ k) ∧ (∀ k, T k → w.heap.size ≤ k) ∧ (∀ k, S k → ¬ T k) ∧ Below w.heap.size w wr

set_option maxRecDepth 100000 in
set_option maxHeartbeats 1600000 in
theorem steps_walk (v : Value) (l : List O3) (early late : Int) (w : World) (h : Rd op3 w v l) (hok : ∀ o ∈ l, iok o.2.2) :
    Calls Try.prog 6 #[v, .int .i64 early, .int .i64 late] w fun e w' => e = .returned (.bool true) ∧ Below w.heap.size w w' := by
  have hu := Try.underlying33
  have HH := Lib.hid h
  have HOK := Lib.hid hok
  obtain ⟨A, c, rfl, h1, h2, h3⟩ := h
  clear h3 hok
  by_cases hbig : 200 < l.length ∨ late < early
  · have two : ∃ b : Bool, True := ⟨true, trivial⟩
    by_cases hlen : 200 < l.length
    all_goals
      (try have hel : late < early := hbig.resolve_left hlen)
      clear hbig
      go_enter Try.func6, Try.ntmps6
      go_wp2_with fail
      refine (new_any _).mono ?_
      rintro e w1 ⟨pa, S1, rfl, ha1, hs1, hb1⟩
      have HB1 := Lib.hid hb1
      clear ha1 hs1 hb1
      go_wp2_with fail
      refine (new_any _).mono ?_
      rintro e w2 ⟨pb, S2, rfl, ha2, hs2, hb2⟩
      have HB2 := Lib.hid (HB1.out.trans (hb2.mono HB1.out.size))
      clear ha2 hs2 hb2
      go_wp2_with fail
      refine (alive_any _).mono ?_
      rintro e w3 ⟨rfl, hb3⟩
      go_wp2_with fail
      go_ret
      exact ⟨rfl, HB2.out.trans (hb3.mono HB2.out.size)⟩
  · have hlen : ¬ 200 < l.length := fun h => hbig (.inl h)
    have hel : ¬ late < early := fun h => hbig (.inr h)
    clear hbig
    have HEL := Lib.hid (show early ≤ late by omega)
    go_enter Try.func6, Try.ntmps6
    go_wp2_with fail
    refine (new_any _).mono ?_
    rintro e w1 ⟨pa, S1, rfl, ha1, hs1, hb1⟩
    have H1 := Lib.hid (And.intro ha1 (And.intro hs1 hb1))
    clear ha1 hs1 hb1
    go_wp2_with fail
    refine (new_any _).mono ?_
    rintro e w2 ⟨pb, T1, rfl, hb2, ht2, hbb2⟩
    have H2 := Lib.hid (And.intro hb2 (And.intro ht2 hbb2))
    clear hb2 ht2 hbb2
    go_wp2_with fail
    go_loopw [41] (fun i wr => ScriptR2 w pa pb l.length i wr) (fun i wr => l.length - (intOf i).toNat)
    case atStart =>
      obtain ⟨a1, a2, a3⟩ := H1.out
      obtain ⟨b1, b2, b3⟩ := H2.out
      exact ⟨0, [], 0, S1, T1, rfl, Nat.zero_le _, a1.below b3, b1, St.nil, a2, fun k hk => Nat.le_trans a3.size (b2 k hk), fun k hs ht => Nat.lt_irrefl _ (Nat.lt_of_lt_of_le (a1.low k hs) (b2 k ht)), a3.trans (b3.mono a3.size)⟩
    case round =>
      obtain ⟨k, L, last, S, T, rfl, hk, hA, hBb, hS, hsub, htub, hdis, hB⟩ := hrel
      have HA := Lib.hid hA
      have HT := Lib.hid hBb
      have HS := Lib.hid hS
      have HSUB := Lib.hid hsub
      have HTUB := Lib.hid htub
      have HDIS := Lib.hid hdis
      have HB := Lib.hid hB
      clear hA hBb hS hsub htub hdis hB
      by_cases hkl : k < l.length
      · obtain ⟨o, ho⟩ : ∃ o, l[k]? = some o := ⟨_, List.getElem?_eq_getElem hkl⟩
        obtain ⟨b, p, c', hv, c0, c1, c2⟩ := (HH.out.below HB.out).op_at ho
        cases hv
        have hkl' : (k : Int) < (l.length : Int) := by omega
        have hoi := HOK.out o (List.mem_of_getElem? ho)
        have lb := World.block_lt_of_cell? _ _ c0
        have HOI := Lib.hid hoi
        clear ho hoi
        go_wp2_with fail
        have hbx : Below wr.heap.size wr (wr.alloc (.cells #[.int .i64 o.1, .int .i64 o.2.1, .int .i64 o.2.2] 38)) := (Below.refl _ _).alloc (Nat.le_refl _) _
        have HX := Lib.hid (heap_alloc wr (.cells #[.int .i64 o.1, .int .i64 o.2.1, .int .i64 o.2.2] 38)).1
        have HBX := Lib.hid hbx
        clear hbx
        refine (does_any pa o.1 o.2.1 o.2.2 L last S k _ (HA.out.below HBX.out) HS.out (by omega) HOI.out).mono ?_
        rintro e w2 ⟨v2, S2, rfl, _, _, h2, hs2, ho2⟩
        have hbox := ho2.obj HX.out (fun h => Nat.lt_irrefl _ (HA.out.low _ h))
        have x0 := cell_of_cells hbox 0
        have x1 := cell_of_cells hbox 1
        have x2 := cell_of_cells hbox 2
        simp only [List.getElem?_toArray, List.getElem?_cons_zero, List.getElem?_cons_succ] at x0 x1 x2
        have HT2 := Lib.hid ((HT.out.below HBX.out).other ho2 (fun k ht hs => HDIS.out k hs ht))
        have hb2 : Below w.heap.size w w2 := below_of_only (HB.out.alloc HB.out.size _) ho2 (by have := HB.out.size; simp; omega) HSUB.out
        have HB2 := Lib.hid hb2
        have H2 := Lib.hid h2
        have HS2 := Lib.hid hs2
        have HWS := Lib.hid ho2.size
        clear h2 hs2 ho2 hb2 hbox
        go_wp2_with fail
        refine (does_any pb o.1 o.2.1 o.2.2 L last T k _ HT2.out HS.out (by omega) HOI.out).mono ?_
        rintro e w3 ⟨v3, T2, rfl, _, _, h3, ht3, ho3⟩
        have hd1 : ∀ k, S2 k → ¬ T k := fun k hs ht => by
          rcases HS2.out k hs with h | h
          · exact HDIS.out k h ht
          · have := HT.out.low k ht; simp at h; omega
        have hA3 := H2.out.other ho3 hd1
        have hd3 : ∀ k, S2 k → ¬ T2 k := fun k hs ht => by
          rcases ht3 k ht with h | h
          · exact hd1 k hs h
          · have := H2.out.low k hs; omega
        have hs3 : ∀ k, S2 k → w.heap.size ≤ k := fun k hk => by
          rcases HS2.out k hk with h | h
          · exact HSUB.out k h
          · have := HB.out.size; simp at h; omega
        have ht3' : ∀ k, T2 k → w.heap.size ≤ k := fun k hk => by
          rcases ht3 k hk with h | h
          · exact HTUB.out k h
          · have := HB2.out.size; omega
        have hb3 : Below w.heap.size w w3 := below_of_only HB2.out ho3 HB2.out.size HTUB.out
        have H3 := Lib.hid (And.intro hA3 (And.intro h3 (And.intro hs3 (And.intro ht3' (And.intro hd3 hb3)))))
        clear hA3 h3 hs3 ht3' hd3 hb3 hd1 ht3 ho3
        go_wp2_with fail
        go_roundw
        case rel => exact ⟨k + 1, _, _, S2, T2, by go_num, by omega, H3.out.1, H3.out.2.1, HS.out.do_ HA.out.idx _ _ _, H3.out.2.2.1, H3.out.2.2.2.1, H3.out.2.2.2.2.1, H3.out.2.2.2.2.2⟩
        case measure => simp [intOf]; omega
      · have hll : L.length ≤ 200 := by have := HS.out.len; omega
        have HLL := Lib.hid hll
        clear hll
        go_wp2_with fail
        obtain ⟨hst1, hst2⟩ := take_steps HS.out.heap early late HEL.out
        have hlx : (takeL L.length early L).1.length + (takeL (takeL L.length early L).2.length late (takeL L.length early L).2).1.length ≤ L.length ∧ (takeL L.length late L).2.length ≤ L.length ∧ (takeL (takeL L.length early L).2.length late (takeL L.length early L).2).2.length ≤ L.length := by
          obtain ⟨p1, _, _, _, h1⟩ := take_spec L.length early L (Nat.le_refl _) HS.out.heap
          obtain ⟨p2, _⟩ := take_spec _ late (takeL L.length early L).2 (Nat.le_refl _) h1
          obtain ⟨p3, _⟩ := take_spec L.length late L (Nat.le_refl _) HS.out.heap
          have e1 := p1.length_eq
          have e2 := p2.length_eq
          have e3 := p3.length_eq
          rw [List.length_append] at e1 e2 e3
          omega
        refine (take_any pa early L last S _ HA.out).mono ?_
        rintro e w4 ⟨v4, rfl, hown4, hf4, h4, ho4⟩
        generalize (takeL L.length early L).1 = x1 at hst1 hst2 hlx hown4
        generalize (takeL L.length early L).2 = L1 at hst1 hst2 hlx h4
        have HA4 := Lib.hid h4
        have HT4 := Lib.hid (HT.out.other ho4 (fun k ht hs => HDIS.out k hs ht))
        have HB4 := Lib.hid (below_of_only HB.out ho4 HB.out.size HSUB.out)
        have HO4 := Lib.hid hown4
        have HF4 := Lib.hid hf4
        have HST1 := Lib.hid hst1
        have HST2 := Lib.hid hst2
        have HLX := Lib.hid hlx
        have HW4 := Lib.hid ho4.size
        clear hown4 hf4 h4 ho4 hst1 hst2 hlx
        go_wp2_with fail
        refine (take_any pa late L1 last S _ HA4.out).mono ?_
        rintro e w5 ⟨v5, rfl, hown5, _, h5, ho5⟩
        have hst1 := HST1.out
        have hst2 := HST2.out
        have hlx := HLX.out
        generalize (takeL L1.length late L1).1 = x2 at hst1 hlx hown5
        generalize (takeL L1.length late L1).2 = L2 at hst2 hlx h5
        have HO5 := Lib.hid hown5
        have HO45 := Lib.hid (ho5.own HO4.out (fun g hg hS => Nat.lt_irrefl _ (Nat.lt_of_lt_of_le (HA.out.low g hS) (HF4.out g hg))))
        have HA5 := Lib.hid h5
        have HT5 := Lib.hid (HT4.out.other ho5 (fun k ht hs => HDIS.out k hs ht))
        have HB5 := Lib.hid (below_of_only HB4.out ho5 HB4.out.size HSUB.out)
        have HE := Lib.hid hst1
        have HE2 := Lib.hid hst2
        have HL2 := Lib.hid hlx
        have HW5 := Lib.hid ho5.size
        clear hown5 h5 ho5 hst1 hst2 hlx
        go_wp2_with (first | (at_builtin; refine holdL ?_) | fail)
        refine HoldL.go ?_
        refine append_due rfl _ _ rfl v4 v5 x1 x2 rfl rfl HO45.out HO5.out (by have := HL2.out; have := HLL.out; omega) ?_
        intro v6 w6 hown6 hg6 hat6
        rw [HE.out] at hown6
        have hon6 : Only (fun k => v4.ownBlock = some k) w5 w6 := ⟨hg6.os, hg6.tape, hg6.output, hg6.size, fun k hk hn => hg6.block k hk (fun e => hn e.symm)⟩
        have HA6 := Lib.hid (HA5.out.other hon6 (fun k hs he => Nat.lt_irrefl _ (Nat.lt_of_lt_of_le (HA.out.low k hs) (HF4.out k he))))
        have HT6 := Lib.hid (HT5.out.other hon6 (fun k ht he => Nat.lt_irrefl _ (Nat.lt_of_lt_of_le (HT.out.low k ht) (HF4.out k he))))
        have HB6 := Lib.hid (below_of_only HB5.out hon6 HB5.out.size (fun k he => Nat.le_trans HB.out.size (HF4.out k he)))
        have HR6 := Lib.hid (Rd.of_own due_length hown6)
        clear hown6 hg6 hat6 hon6
        go_wp2_with fail
        refine (alive_any _).mono ?_
        rintro e w7 ⟨rfl, hb7⟩
        have HA7 := Lib.hid (HA6.out.below hb7)
        have HT7 := Lib.hid (HT6.out.below hb7)
        have HB7 := Lib.hid (HB6.out.trans (hb7.mono HB6.out.size))
        have HR7 := Lib.hid (HR6.out.below hb7)
        clear hb7
        obtain ⟨z, hz⟩ : ∃ z, (takeL L.length late L).1 = z := ⟨_, rfl⟩
        rw [hz] at HR7 HE
        have hzl : z.length ≤ 1000 := by rw [← HE.out, List.length_append]; have := HL2.out; have := HLL.out; omega
        have HZ := Lib.hid hz
        have HZL := Lib.hid hzl
        clear hz hzl
        go_wp2_with fail
        refine (rows_any v6 z _ HR7.out (by have := HZL.out; omega)).mono ?_
        rintro e w8 ⟨v8, rfl, hown8, hf8, hb8⟩
        have HF8 := Lib.hid (fun g (hg : v8.ownBlock = some g) (hT : T g) => Nat.lt_irrefl _ (Nat.lt_of_lt_of_le (HT7.out.low g hT) (hf8 g hg)))
        have HA8 := Lib.hid (HA7.out.below hb8)
        have HT8 := Lib.hid (HT7.out.below hb8)
        have HB8 := Lib.hid (HB7.out.trans (hb8.mono HB7.out.size))
        have HR8 := Lib.hid (Rd.of_own due_length hown8)
        clear hb8 hown8 hf8
        go_wp2_with fail
        refine (take_any pb late L last T _ HT8.out).mono ?_
        rintro e w9 ⟨v9, rfl, hown9, _, h9, ho9⟩
        rw [HZ.out] at hown9
        obtain ⟨L3, hL3⟩ : ∃ L3, (takeL L.length late L).2 = L3 := ⟨_, rfl⟩
        rw [hL3] at h9 HE2 HL2
        have HA9 := Lib.hid (HA8.out.other ho9 (fun k hs ht => HDIS.out k hs ht))
        have HT9 := Lib.hid h9
        have HB9 := Lib.hid (below_of_only HB8.out ho9 HB8.out.size HTUB.out)
        have HR9 := Lib.hid (HR8.out.only ho9 HF8.out)
        have HQ9 := Lib.hid (Rd.of_own due_length hown9)
        clear hown9 h9 ho9 hL3
        go_wp2_with fail
        refine (rows_any v9 z _ HQ9.out (by have := HZL.out; omega)).mono ?_
        rintro e w10 ⟨v10, rfl, hown10, _, hb10⟩
        have HA10 := Lib.hid (HA9.out.below hb10)
        have HT10 := Lib.hid (HT9.out.below hb10)
        have HB10 := Lib.hid (HB9.out.trans (hb10.mono HB9.out.size))
        have HR10 := Lib.hid (HR9.out.below hb10)
        have HQ10 := Lib.hid (Rd.of_own due_length hown10)
        clear hb10 hown10
        go_wp2_with fail
        refine (same_any v8 v10 z z _ HR10.out HQ10.out).mono ?_
        rintro e w11 ⟨rfl, hb11⟩
        rw [decide_eq_true rfl]
        have HA11 := Lib.hid (HA10.out.below hb11)
        have HT11 := Lib.hid (HT10.out.below hb11)
        have HB11 := Lib.hid (HB10.out.trans (hb11.mono HB10.out.size))
        clear hb11
        go_wp2_with fail
        refine (list_any pa L2 last S _ HA11.out (by have := HL2.out; have := HLL.out; omega)).mono ?_
        rintro e w12 ⟨v12, rfl, hr12, _, hb12⟩
        have HT12 := Lib.hid (HT11.out.below hb12)
        have HB12 := Lib.hid (HB11.out.trans (hb12.mono HB11.out.size))
        have HR12 := Lib.hid hr12
        clear hr12 hb12
        go_wp2_with fail
        refine (rows_any v12 (sortL L2) _ HR12.out (by rw [sortL_length]; have := HL2.out; have := HLL.out; omega)).mono ?_
        rintro e w13 ⟨v13, rfl, hown13, _, hb13⟩
        have HT13 := Lib.hid (HT12.out.below hb13)
        have HB13 := Lib.hid (HB12.out.trans (hb13.mono HB12.out.size))
        have HR13 := Lib.hid (Rd.of_own due_length hown13)
        clear hown13 hb13
        go_wp2_with fail
        refine (list_any pb L3 last T _ HT13.out (by have := HL2.out; have := HLL.out; omega)).mono ?_
        rintro e w14 ⟨v14, rfl, hr14, _, hb14⟩
        have HB14 := Lib.hid (HB13.out.trans (hb14.mono HB13.out.size))
        have HR14 := Lib.hid (HR13.out.below hb14)
        have HQ14 := Lib.hid hr14
        clear hr14 hb14
        go_wp2_with fail
        refine (rows_any v14 (sortL L3) _ HQ14.out (by rw [sortL_length]; have := HL2.out; have := HLL.out; omega)).mono ?_
        rintro e w15 ⟨v15, rfl, hown15, _, hb15⟩
        have HB15 := Lib.hid (HB14.out.trans (hb15.mono HB14.out.size))
        have HR15 := Lib.hid (HR14.out.below hb15)
        have HQ15 := Lib.hid (Rd.of_own due_length hown15)
        clear hown15 hb15
        go_wp2_with fail
        refine (same_any v13 v15 (sortL L2) (sortL L3) _ HR15.out HQ15.out).mono ?_
        rintro e w16 ⟨rfl, hb16⟩
        rw [decide_eq_true HE2.out]
        go_wp2_with fail
        go_ret
        exact ⟨rfl, HB15.out.trans (hb16.mono HB15.out.size)⟩
end Go.Proofs.Ytcnifhkgibopbaa
