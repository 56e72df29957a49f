/- AlarmCopies: the walk. -/
import Derived.Test.YtcnifhkgibopbaaRefF
set_option linter.unusedVariables false
set_option linter.unusedSimpArgs false
namespace Go.Proofs.Ytcnifhkgibopbaa
open Go.RowKit Go.MapKept Go.ChangeMaps

def CopR (w : World) (pa br len : Nat) (i : Value) (wr : World) : Prop :=
  ∃ (k : Nat) (L : List D2) (last : Int) (S : Nat → Prop) (v : Value), i = .int .i64 k ∧ k ≤ len ∧ RS w pa br L last k S v wr
/-- The copy, and the first one beside it. -/
def CopR2 (w : World) (pa br pc bq k0 len : Nat) (L : List D2) (last : Int) (S : Nat → Prop) (v : Value) (i : Value) (wr : World) : Prop :=
  ∃ (j : Nat) (L2 : List D2) (last2 : Int) (T : Nat → Prop) (v2 : Value), i = .int .i64 j ∧ j ≤ len ∧ RS w pc bq L2 last2 (k0 + j) T v2 wr ∧ RS w pa br L last k0 S v wr ∧ Dis S T v br bq

set_option maxRecDepth 100000 in
set_option maxHeartbeats 4000000 in
theorem copies_walk (v : Value) (l : List O3) (vm : Value) (lm : List O3) (w : World) (h : Rd op3 w v l) (hok : ∀ o ∈ l, iok o.2.2) (hm : Rd op3 w vm lm) (hokm : ∀ o ∈ lm, iok o.2.2) (hbig : l.length ≤ 100000000000000000 ∧ lm.length ≤ 100000000000000000) :
    Calls Try.prog 9 #[v, vm] w fun e w' => e = .returned (.bool true) ∧ Below w.heap.size w w' := by
  have hu := Try.underlying33
  have HH := Lib.hid h
  have HOK := Lib.hid hok
  have HHM := Lib.hid hm
  have HOKM := Lib.hid hokm
  obtain ⟨A, c, rfl, h1, h2, h3⟩ := h
  obtain ⟨Am, cm, rfl, h4, h5, h6⟩ := hm
  obtain ⟨hb1, hb2⟩ := hbig
  have hs1 : (l.length : Int) + (lm.length : Int) ≤ 1000000000000000000 := by omega
  clear h3 hok h6 hokm
  by_cases hlen : (200 : Int) < (l.length : Int) + (lm.length : Int)
  · go_enter Try.func9, Try.ntmps9
    go_wp2_with fail
    refine (new_any _).mono ?_
    rintro e w1 ⟨pa, S1, rfl, ha1, hs1, hb1⟩
    have HB1 := Lib.hid hb1
    clear ha1 hs1 hb1
    go_wp2_with fail
    refine (alive_any _).mono ?_
    rintro e w2 ⟨rfl, hb2⟩
    go_wp2_with fail
    go_ret
    exact ⟨rfl, HB1.out.trans (hb2.mono HB1.out.size)⟩
  · go_enter Try.func9, Try.ntmps9
    go_wp2_with fail
    refine (new_any _).mono ?_
    rintro e w1 ⟨pa, S1, rfl, ha1, hs1, hb1⟩
    have H1 := Lib.hid (And.intro ha1 (And.intro hs1 hb1))
    clear ha1 hs1 hb1
    go_wp2_with fail
    go_loopw [36] (fun i wr => CopR w pa w1.heap.size l.length i wr) (fun i wr => l.length - (intOf i).toNat)
    case atStart =>
      obtain ⟨a1, a2, a3⟩ := H1.out
      have hbx : Below w1.heap.size w1 (w1.alloc (.cells #[.slice none 0 0, .int .i64 0] 47)) := (Below.refl _ _).alloc (Nat.le_refl _) _
      exact ⟨0, [], 0, S1, .slice none 0 0, rfl, Nat.zero_le _, ⟨a1.below hbx, St.nil, a2, a3.alloc a3.size _, (heap_alloc w1 _).1, by rw [show sortL [] = [] by simp [sortL]]; exact rd_nil _, fun g hg => by simp [Value.ownBlock] at hg, fun hs => Nat.lt_irrefl _ (a1.low _ hs), a3.size⟩⟩
    case round =>
      obtain ⟨k, L, last, S, vr, rfl, hk, hrs⟩ := hrel
      have HRS := Lib.hid hrs
      have hbox := hrs.box
      have hlo := hrs.lo
      clear hrs
      generalize w1.heap.size = br at HRS hbox hlo ⊢
      have r0 := cell_of_cells hbox 0
      have r1 := cell_of_cells hbox 1
      have rf := free_of_cells hbox
      simp only [List.getElem?_toArray, List.getElem?_cons_zero, List.getElem?_cons_succ] at r0 r1
      have lbr := World.block_lt_of_cell? _ _ r0
      clear hbox
      by_cases hkl : k < l.length
      · obtain ⟨o, ho⟩ : ∃ o, l[k]? = some o := ⟨_, List.getElem?_eq_getElem hkl⟩
        obtain ⟨b, p, c', hv, c0, c1, c2⟩ := (HH.out.below HRS.out.below).op_at ho
        cases hv
        have hkl' : (k : Int) < (l.length : Int) := by omega
        have hoi := HOK.out o (List.mem_of_getElem? ho)
        have lb := World.block_lt_of_cell? _ _ c0
        have HOI := Lib.hid hoi
        have hll : (sortL L).length ≤ 1000 := by rw [sortL_length]; have := HRS.out.st.len; omega
        have HW1 := Lib.hid ((Below.refl wr.heap.size wr).alloc (Nat.le_refl _) (.cells #[.int .i64 o.1, .int .i64 o.2.1, .int .i64 o.2.2] 38))
        have HDO := Lib.hid (do_any vr (sortL L) last o.1 o.2.1 o.2.2 (wr.alloc (.cells #[.int .i64 o.1, .int .i64 o.2.1, .int .i64 o.2.2] 38)) (HRS.out.rd.below HW1.out) hll ⟨HRS.out.st.last0, by have := HRS.out.st.last1; omega⟩)
        rw [doR_doL HRS.out.st HRS.out.alm.idx] at HDO
        clear ho hoi hll
        go_wp2_with fail
        refine HDO.out.mono ?_
        rintro e w2 ⟨v2, vo2, rfl, hr2, hro2, hb2, ho2, hoo2⟩
        have HST := Lib.hid (HRS.out.step HW1.out hb2 o.1 o.2.1 o.2.2 hr2 ho2)
        obtain ⟨A2, cc2, rfl, -, -, -⟩ := hr2
        obtain ⟨A3, cc3, rfl, -, -, -⟩ := hro2
        have hop2 := (hb2.block _ (lt_of_heap (heap_alloc wr (.cells #[.int .i64 o.1, .int .i64 o.2.1, .int .i64 o.2.2] 38)).1)).trans (heap_alloc wr _).1
        have hrb2 := ((HRS.out.later HW1.out).later hb2).box
        have x0 := cell_of_cells hop2 0
        have x1 := cell_of_cells hop2 1
        have x2 := cell_of_cells hop2 2
        have y0 := cell_of_cells hrb2 0
        have y1 := cell_of_cells hrb2 1
        have yf := free_of_cells hrb2
        simp only [List.getElem?_toArray, List.getElem?_cons_zero, List.getElem?_cons_succ] at x0 x1 x2 y0 y1
        have lbr2 := lt_of_heap hrb2
        have lop2 := lt_of_heap hop2
        have nb1 : br ≠ w2.heap.size := by omega
        have nb2 : br ≠ w2.heap.size + 1 := by omega
        have no1 : wr.heap.size ≠ w2.heap.size := by omega
        have no2 : wr.heap.size ≠ w2.heap.size + 1 := by omega
        have nb1' : w2.heap.size ≠ br := by omega
        have nb2' : w2.heap.size + 1 ≠ br := by omega
        have no1' : w2.heap.size ≠ wr.heap.size := by omega
        have no2' : w2.heap.size + 1 ≠ wr.heap.size := by omega
        have nbo : br ≠ wr.heap.size := by omega
        have nbo' : wr.heap.size ≠ br := by omega
        clear hop2 hrb2 hb2 ho2 hoo2 c0 c1 c2 r0 r1 rf lb
        go_wp2_with fail
        obtain ⟨hal, hbd, hnx⟩ := HST.out (.cells #[.slice A2 (sortL (doL L last o.1 o.2.1 o.2.2).L).length cc2, .int .i64 (doL L last o.1 o.2.1 o.2.2).last] 47) (.cells #[.int .i64 (doL L last o.1 o.2.1 o.2.2).N, .bool (doL L last o.1 o.2.1 o.2.2).is, .int .i64 (doL L last o.1 o.2.1 o.2.2).e, .slice A3 (doL L last o.1 o.2.1 o.2.2).out.length cc3] 41)
        refine (does_any pa o.1 o.2.1 o.2.2 L last S k _ hal HRS.out.st (by omega) HOI.out).mono ?_
        rintro e w3 ⟨v3, S2, rfl, _, _, h3, hs3, ho3⟩
        have HN := Lib.hid (hnx w3 S2 h3 hs3 ho3)
        clear h3 hs3 ho3 hnx hal hbd
        go_wp2_with fail
        go_roundw
        case rel => exact ⟨k + 1, _, _, S2, _, by go_num, by omega, HN.out⟩
        case measure => simp [intOf]; omega
      · have q : ¬ (k : Int) < (l.length : Int) := by omega
        have hll : L.length ≤ 100000 := by have := HRS.out.st.len; omega
        have HVS := Lib.hid HRS.out.rd
        obtain ⟨A1, cc1, hv1, -, -, -⟩ := HVS.out
        cases hv1
        have HCP := Lib.hid (copy_any pa L last S wr HRS.out.alm hll)
        clear hll
        go_wp2_with fail
        refine HCP.out.mono ?_
        rintro e w5 ⟨pc, T, rfl, ha5, hs5, hb5⟩
        have H5 := Lib.hid (HRS.out.copy ha5 hs5 hb5)
        have r5 := cell_at hb5 r0
        have r5' := cell_at hb5 r1
        have lbr5 : br < w5.heap.size := Nat.lt_of_lt_of_le lbr hb5.size
        clear ha5 hs5 hb5 r0 r1 rf lbr HRS hlo
        go_wp2_with fail
        go_loopw [58] (fun i wr => CopR2 w pa br pc w5.heap.size k lm.length L last S (.slice A1 (sortL L).length cc1) i wr) (fun i wr => lm.length - (intOf i).toNat)
        case atStart => exact ⟨0, L, last, T, _, rfl, Nat.zero_le _, H5.out.1, H5.out.2.1, H5.out.2.2⟩
        case round =>
          obtain ⟨j, L2, last2, T, vq, rfl, hj, hrq, hrs, hdis⟩ := hrel
          have HRQ := Lib.hid hrq
          have HRS := Lib.hid hrs
          have HDIS := Lib.hid hdis
          have hbox := hrq.box
          have hnbq := hrq.nb
          clear hrs hrq hdis
          generalize w5.heap.size = bq at HRQ HDIS hbox hnbq ⊢
          have r0 := cell_of_cells hbox 0
          have r1 := cell_of_cells hbox 1
          have rf := free_of_cells hbox
          simp only [List.getElem?_toArray, List.getElem?_cons_zero, List.getElem?_cons_succ] at r0 r1
          have lbq := World.block_lt_of_cell? _ _ r0
          clear hbox
          by_cases hjl : j < lm.length
          · obtain ⟨o, ho⟩ : ∃ o, lm[j]? = some o := ⟨_, List.getElem?_eq_getElem hjl⟩
            obtain ⟨b, p, c', hv, c0, c1, c2⟩ := (HHM.out.below HRQ.out.below).op_at ho
            cases hv
            have hjl' : (j : Int) < (lm.length : Int) := by omega
            have hoi := HOKM.out o (List.mem_of_getElem? ho)
            have lb := World.block_lt_of_cell? _ _ c0
            have HOI := Lib.hid hoi
            have hll : (sortL L2).length ≤ 1000 := by rw [sortL_length]; have := HRQ.out.st.len; omega
            have HW1 := Lib.hid ((Below.refl wr.heap.size wr).alloc (Nat.le_refl _) (.cells #[.int .i64 o.1, .int .i64 o.2.1, .int .i64 o.2.2] 38))
            have HDO := Lib.hid (do_any vq (sortL L2) last2 o.1 o.2.1 o.2.2 (wr.alloc (.cells #[.int .i64 o.1, .int .i64 o.2.1, .int .i64 o.2.2] 38)) (HRQ.out.rd.below HW1.out) hll ⟨HRQ.out.st.last0, by have := HRQ.out.st.last1; omega⟩)
            rw [doR_doL HRQ.out.st HRQ.out.alm.idx] at HDO
            clear ho hoi hll
            go_wp2_with fail
            refine HDO.out.mono ?_
            rintro e w2 ⟨v2, vo2, rfl, hr2, hro2, hb2, ho2, hoo2⟩
            have HST := Lib.hid (HRQ.out.step HW1.out hb2 o.1 o.2.1 o.2.2 hr2 ho2)
            have HTL := Lib.hid (fun cA cB w3 => HRQ.out.told HW1.out hb2 hro2 hoo2 (v2 := v2) (last2 := (doL L2 last2 o.1 o.2.1 o.2.2).last) (cA := cA) (cB := cB) (w3 := w3))
            have HWT := Lib.hid (fun cA cB w3 => HRQ.out.want HW1.out hb2 (v2 := v2) (last2 := (doL L2 last2 o.1 o.2.1 o.2.2).last) (cA := cA) (cB := cB) (w3 := w3))
            have HBS := Lib.hid (fun cA cB w3 T2 => HRS.out.beside HDIS.out HW1.out hb2 (v2 := v2) (last2 := (doL L2 last2 o.1 o.2.1 o.2.2).last) (cA := cA) (cB := cB) (w3 := w3) (T2 := T2))
            obtain ⟨A2, cc2, rfl, -, -, -⟩ := hr2
            have HRO := Lib.hid hro2
            obtain ⟨A3, cc3, rfl, -, -, -⟩ := HRO.out
            have hop2 := (hb2.block _ (lt_of_heap (heap_alloc wr (.cells #[.int .i64 o.1, .int .i64 o.2.1, .int .i64 o.2.2] 38)).1)).trans (heap_alloc wr _).1
            have hrb2 := ((HRQ.out.later HW1.out).later hb2).box
            have x0 := cell_of_cells hop2 0
            have x1 := cell_of_cells hop2 1
            have x2 := cell_of_cells hop2 2
            have y0 := cell_of_cells hrb2 0
            have y1 := cell_of_cells hrb2 1
            have yf := free_of_cells hrb2
            simp only [List.getElem?_toArray, List.getElem?_cons_zero, List.getElem?_cons_succ] at x0 x1 x2 y0 y1
            have lbr2 := lt_of_heap hrb2
            have lop2 := lt_of_heap hop2
            have nb1 : bq ≠ w2.heap.size := by omega
            have nb2 : bq ≠ w2.heap.size + 1 := by omega
            have no1 : wr.heap.size ≠ w2.heap.size := by omega
            have no2 : wr.heap.size ≠ w2.heap.size + 1 := by omega
            have nb1' : w2.heap.size ≠ bq := by omega
            have nb2' : w2.heap.size + 1 ≠ bq := by omega
            have no1' : w2.heap.size ≠ wr.heap.size := by omega
            have no2' : w2.heap.size + 1 ≠ wr.heap.size := by omega
            have nbo : bq ≠ wr.heap.size := by omega
            have nbo' : wr.heap.size ≠ bq := by omega
            have HTS := Lib.hid (fun k hk => HRQ.out.alm.low k hk)
            clear hop2 hrb2 hb2 ho2 hoo2 hro2 c0 c1 c2 r0 r1 rf lb
            go_wp2_with fail
            obtain ⟨hal, hbd, hnx⟩ := HST.out (.cells #[.slice A2 (sortL (doL L2 last2 o.1 o.2.1 o.2.2).L).length cc2, .int .i64 (doL L2 last2 o.1 o.2.1 o.2.2).last] 47) (.cells #[.int .i64 (doL L2 last2 o.1 o.2.1 o.2.2).N, .bool (doL L2 last2 o.1 o.2.1 o.2.2).is, .int .i64 (doL L2 last2 o.1 o.2.1 o.2.2).e, .slice A3 (doL L2 last2 o.1 o.2.1 o.2.2).out.length cc3] 41)
            refine (does_any pc o.1 o.2.1 o.2.2 L2 last2 T (k + j) _ hal HRQ.out.st (by omega) HOI.out).mono ?_
            rintro e w3 ⟨v3, T2, rfl, hown3, hf3, h3, ht3, ho3⟩
            have HN := Lib.hid (hnx w3 T2 h3 ht3 ho3)
            have HO := Lib.hid (HBS.out _ _ w3 T2 ho3 HRQ.out.lo HRQ.out.sub ht3)
            have HR3 := Lib.hid (HTL.out _ _ w3 ho3)
            have HV3 := Lib.hid (Rd.of_own due_length hown3)
            obtain ⟨A4, cc4, rfl, -, -, -⟩ := HV3.out
            have hwt := HWT.out _ _ w3 ho3
            have z0 := cell_of_cells hwt 0
            have z1 := cell_of_cells hwt 1
            have z2 := cell_of_cells hwt 2
            have z3 := cell_of_cells hwt 3
            simp only [List.getElem?_toArray, List.getElem?_cons_zero, List.getElem?_cons_succ] at z0 z1 z2 z3
            have lz := World.block_lt_of_cell? _ _ z0
            clear h3 ht3 ho3 hnx hal hbd hown3 hf3 hwt x0 x1 x2 y0 y1 yf
            have HBX := Lib.hid ((Below.refl w3.heap.size w3).alloc (Nat.le_refl _) (.cells #[.int .i64 (doL L2 last2 o.1 o.2.1 o.2.2).N, .bool (doL L2 last2 o.1 o.2.1 o.2.2).is, .int .i64 (doL L2 last2 o.1 o.2.1 o.2.2).e, .slice A4 (doL L2 last2 o.1 o.2.1 o.2.2).out.length cc4] 41))
            go_wp2_with fail
            refine (same_self _ _ _ _ (HV3.out.below HBX.out) (HR3.out.below HBX.out)).mono ?_
            rintro e w4 ⟨rfl, hb4⟩
            have HN4 := Lib.hid ((HN.out.later HBX.out).later hb4)
            have HO4 := Lib.hid ((HO.out.1.later HBX.out).later hb4)
            clear hb4
            go_wp2_with fail
            go_roundw
            case rel => exact ⟨j + 1, _, _, T2, _, by go_num, by omega, HN4.out, HO4.out, HO.out.2⟩
            case measure => simp [intOf]; omega
          · have qj : ¬ (j : Int) < (lm.length : Int) := by omega
            have HL2 := Lib.hid (show L2.length ≤ 100000 by have := HRQ.out.st.len; omega)
            have HL1 := Lib.hid (show L.length ≤ 100000 by have := HRS.out.st.len; omega)
            have HVQ := Lib.hid HRQ.out.rd
            obtain ⟨A5, cc5, rfl, -, -, -⟩ := HVQ.out
            have hrb := HRS.out.box
            have s0 := cell_of_cells hrb 0
            have s1 := cell_of_cells hrb 1
            simp only [List.getElem?_toArray, List.getElem?_cons_zero, List.getElem?_cons_succ] at s0 s1
            have lbr3 := lt_of_heap hrb
            clear hrb rf r5 r5'
            go_wp2_with fail
            go_region_held3 (fun W => W.cell? ⟨br, 0, none⟩ = some (.slice A1 (sortL L).length cc1) ∧ W.cell? ⟨bq, 0, none⟩ = some (.slice A5 (sortL L2).length cc5) ∧ Below wr.heap.size wr W)
              (first
                | exact ⟨s0, r0, (Below.refl _ wr).drew⟩
                | exact ⟨cell_at HBE19.out s0, cell_at HBE19.out r0, HBE19.out⟩
                | exact ⟨cell_at HBE18.out s0, cell_at HBE18.out r0, HBE18.out⟩
                | exact ⟨cell_at HBE17.out s0, cell_at HBE17.out r0, HBE17.out⟩
                | exact ⟨cell_at HBE16.out s0, cell_at HBE16.out r0, HBE16.out⟩
                | exact ⟨cell_at HBE15.out s0, cell_at HBE15.out r0, HBE15.out⟩
                | exact ⟨cell_at HBE14.out s0, cell_at HBE14.out r0, HBE14.out⟩
                | exact ⟨cell_at HBE13.out s0, cell_at HBE13.out r0, HBE13.out⟩
                | exact ⟨cell_at HBE12.out s0, cell_at HBE12.out r0, HBE12.out⟩
                | exact ⟨cell_at HBE11.out s0, cell_at HBE11.out r0, HBE11.out⟩
                | go_keep)
              (first
                | (go_at_call 11; obtain ⟨_, _, hq⟩ := ‹_ ∧ _ ∧ Below wr.heap.size wr _›; refine (alive_any _).mono ?_; rintro e w11 ⟨rfl, hb⟩; have HBE11 := Lib.hid (hq.trans (hb.mono hq.size)); clear hb hq)
                | (go_at_call 20; have _hx := HBE14.out; obtain ⟨_, _, hq⟩ := ‹_ ∧ _ ∧ Below wr.heap.size wr _›; refine (list_any pc L2 last2 T _ (HRQ.out.later hq).alm HL2.out).mono ?_; rintro e w15 ⟨v5, rfl, hr, _, hb⟩; have HBE15 := Lib.hid (hq.trans (hb.mono hq.size)); have HVL2 := Lib.hid hr; clear hb hq _hx hr)
                | (go_at_call 20; have _hx := HBE11.out; obtain ⟨_, _, hq⟩ := ‹_ ∧ _ ∧ Below wr.heap.size wr _›; refine (list_any pa L last S _ (HRS.out.later hq).alm HL1.out).mono ?_; rintro e w12 ⟨v2, rfl, hr, _, hb⟩; have HBE12 := Lib.hid (hq.trans (hb.mono hq.size)); have HVL1 := Lib.hid hr; clear hb hq _hx hr)
                | (go_at_call 19; have _hx := HBE15.out; obtain ⟨_, _, hq⟩ := ‹_ ∧ _ ∧ Below wr.heap.size wr _›; refine (rows_any _ (sortL L2) _ HVL2.out (by rw [sortL_length]; have := HL2.out; omega)).mono ?_; rintro e w16 ⟨v6, rfl, hr, _, hb⟩; have HBE16 := Lib.hid (hq.trans (hb.mono hq.size)); have HVR2 := Lib.hid (Rd.of_own due_length hr); clear hb hq _hx hr)
                | (go_at_call 19; have _hx := HBE12.out; obtain ⟨_, _, hq⟩ := ‹_ ∧ _ ∧ Below wr.heap.size wr _›; refine (rows_any _ (sortL L) _ HVL1.out (by rw [sortL_length]; have := HL1.out; omega)).mono ?_; rintro e w13 ⟨v3, rfl, hr, _, hb⟩; have HBE13 := Lib.hid (hq.trans (hb.mono hq.size)); have HVR1 := Lib.hid (Rd.of_own due_length hr); clear hb hq _hx hr)
                | (go_at_call 18; have _hx := HBE16.out; obtain ⟨_, _, hq⟩ := ‹_ ∧ _ ∧ Below wr.heap.size wr _›; refine (same_self _ _ _ _ HVR2.out (HRQ.out.rd.below hq)).mono ?_; rintro e w17 ⟨rfl, hb⟩; have HBE17 := Lib.hid (hq.trans (hb.mono hq.size)); clear hb hq _hx)
                | (go_at_call 18; have _hx := HBE13.out; obtain ⟨_, _, hq⟩ := ‹_ ∧ _ ∧ Below wr.heap.size wr _›; refine (same_self _ _ _ _ HVR1.out (HRS.out.rd.below hq)).mono ?_; rintro e w14 ⟨rfl, hb⟩; have HBE14 := Lib.hid (hq.trans (hb.mono hq.size)); clear hb hq _hx)
                | (go_at_call 21; have _hx := HBE18.out; obtain ⟨_, _, hq⟩ := ‹_ ∧ _ ∧ Below wr.heap.size wr _›; refine (check_any pc L2 last2 T _ (HRQ.out.later hq).alm HRQ.out.st.heap).mono ?_; rintro e w19 ⟨rfl, hb⟩; have HBE19 := Lib.hid (hq.trans (hb.mono hq.size)); clear hb hq _hx)
                | (go_at_call 21; have _hx := HBE17.out; obtain ⟨_, _, hq⟩ := ‹_ ∧ _ ∧ Below wr.heap.size wr _›; refine (check_any pa L last S _ (HRS.out.later hq).alm HRS.out.st.heap).mono ?_; rintro e w18 ⟨rfl, hb⟩; have HBE18 := Lib.hid (hq.trans (hb.mono hq.size)); clear hb hq _hx))
            have HBW := Lib.hid (HRS.out.below.trans (HBE19.out.mono HRS.out.below.size))
            go_wp2_with fail
            go_ret
            exact ⟨rfl, HBW.out⟩
end Go.Proofs.Ytcnifhkgibopbaa
