/- The walk of Take. -/
import Derived.Test.YtcnifhkgibopbaaAlarmF
set_option linter.unusedVariables false
set_option linter.unusedSimpArgs false
namespace Go.Proofs.Ytcnifhkgibopbaa
open Go.RowKit Go.MapKept Go.ChangeMaps

def takeL : Nat → Int → List D2 → List D2 × List D2
  | 0, _, L => ([], L)
  | f + 1, now, L => if !L.isEmpty && decide ((L.getD 0 (0, 0)).1 ≤ now) then ((L.getD 0 (0, 0)) :: (takeL f now (dropL L 0)).1, (takeL f now (dropL L 0)).2) else ([], L)
theorem dropL_length {L : List D2} {k : Nat} (h : k < L.length) : (dropL L k).length = L.length - 1 := by
  unfold dropL
  have h1 : ((swapL L k (L.length - 1)).take (L.length - 1)).length = L.length - 1 := by
    rw [List.length_take, swapL_length]; omega
  dsimp only
  split
  · rw [sinkL_length, riseL_length, h1]
  · exact h1

theorem next_any (pa : Nat) (L : List D2) (last : Int) (S : Nat → Prop) (w : World) (h : Alm w pa L last S) :
    Calls Try.prog 16 #[.pointer (some ⟨pa, 0, none⟩)] w fun e w' => e = .returned (.tuple #[.agg #[.int .i64 (L.getD 0 (0, 0)).1, .int .i64 (L.getD 0 (0, 0)).2], .bool (!L.isEmpty)]) ∧ Below w.heap.size w w' := by
  cases L with
  | nil => exact next_none pa [] last S w h rfl
  | cons d r => exact next_some pa (d :: r) last S w h d rfl

theorem takeM_eq {w : World} {pa : Nat} {L : List D2} {last : Int} {S : Nat → Prop} (h : Alm w pa L last S) : (match w.cell? ⟨pa, 0, none⟩ with | some (.slice _ n _) => n | _ => 0) = L.length := by
  obtain ⟨mb, v, m, hw, hx⟩ := h
  obtain ⟨A, c, rfl⟩ := hw.slice
  rw [hw.heads.1]
/-- What Take's loop knows. -/
def TakeR (pa : Nat) (last : Int) (S : Nat → Prop) (w : World) (now : Int) (R : List D2 × List D2) (v bx is : Value) (wr : World) : Prop :=
  ∃ (L' out : List D2) (b : Nat), bx = .pointer (some ⟨b, 0, none⟩) ∧ is = .bool (!L'.isEmpty) ∧ wr.heap[b]? = some (.cells #[.int .i64 (L'.getD 0 (0, 0)).1, .int .i64 (L'.getD 0 (0, 0)).2] 33 (0, 0)) ∧ w.heap.size ≤ b ∧
    wr.ownsRow 0 33 2 v out.length (flat due out) ∧ (∀ g, v.ownBlock = some g → w.heap.size ≤ g ∧ g ≠ b) ∧ Alm wr pa L' last S ∧ Only S w wr ∧ out.length + L'.length ≤ 4096 ∧
    R = (out ++ (takeL L'.length now L').1, (takeL L'.length now L').2)
def takeM (wr : World) (pa : Nat) : Nat := match wr.cell? ⟨pa, 0, none⟩ with
  | some (.slice _ n _) => n
  | _ => 0

set_option maxRecDepth 100000 in
set_option maxHeartbeats 400000 in
theorem take_any (pa : Nat) (now : Int) (L : List D2) (last : Int) (S : Nat → Prop) (w : World) (h : Alm w pa L last S) :
    Calls Try.prog 13 #[.pointer (some ⟨pa, 0, none⟩), .int .i64 now] w fun e w' => ∃ v, e = .returned v ∧ w'.ownsRow 0 33 2 v (takeL L.length now L).1.length (flat due (takeL L.length now L).1) ∧
      (∀ g, v.ownBlock = some g → w.heap.size ≤ g) ∧ Alm w' pa (takeL L.length now L).2 last S ∧ Only S w w' := by
  have hsm : L.length ≤ 4096 := by obtain ⟨_, _, _, _, hx⟩ := h; exact hx.small
  have HH := Lib.hid h
  clear h
  go_enter Try.func13, Try.ntmps13
  go_wp2_with fail
  refine (next_any pa L last S _ HH.out).mono ?_
  rintro e w1 ⟨rfl, hb1⟩
  have HB1 := Lib.hid hb1
  clear hb1
  go_wp2_with fail
  go_loopw [5, 6, 7] (fun v bx is wr => TakeR pa last S w now (takeL L.length now L) v bx is wr) (fun _ is _ wr => takeM wr pa)
  case atStart =>
    refine ⟨L, [], w1.heap.size, rfl, rfl, (MapKept.heap_alloc w1 _).1, HB1.out.size, World.ownsRow_nil _ _ _ _, fun g hg => by simp [Value.ownBlock] at hg, HH.out.below (HB1.out.alloc HB1.out.size _), (Only.of_below HB1.out).alloc _, by simpa using hsm, by simp⟩
  case round =>
    obtain ⟨L', out, b, rfl, rfl, hbx, hbb, hown, hne, hA, hO, hlen, hR⟩ := hrel
    have c0 := cell_of_cells hbx 0
    have c1 := cell_of_cells hbx 1
    have f0 := free_of_cells hbx 0
    have f1 := free_of_cells hbx 1
    simp only [List.getElem?_toArray, List.getElem?_cons_zero, List.getElem?_cons_succ] at c0 c1
    have HBX := Lib.hid hbx
    have HOWN := Lib.hid hown
    have HNE := Lib.hid hne
    have HA := Lib.hid hA
    have HO := Lib.hid hO
    have HR := Lib.hid hR
    clear hbx hown hne hA hO hR
    by_cases hgo : (!L'.isEmpty && decide ((L'.getD 0 (0, 0)).1 ≤ now)) = true
    · have hpos : 0 < L'.length := by
        cases L' with
        | nil => simp at hgo
        | cons d r => simp
      obtain ⟨d, hd⟩ : ∃ d, L'.getD 0 (0, 0) = d := ⟨_, rfl⟩
      have hstep : takeL L'.length now L' = (d :: (takeL (L'.length - 1) now (dropL L' 0)).1, (takeL (L'.length - 1) now (dropL L' 0)).2) := by
        conv => lhs; rw [show L'.length = (L'.length - 1) + 1 by omega]
        rw [takeL, if_pos hgo, hd]
      have he : L'.isEmpty = false := by
        cases L' with
        | nil => simp at hpos
        | cons d r => rfl
      simp only [he, Bool.not_false, Bool.true_and, decide_eq_true_eq] at hgo
      rw [hd] at hgo c0 c1 HBX
      have HSTEP := Lib.hid hstep
      have HE := Lib.hid he
      rw [he]
      simp only [Bool.not_false]
      clear hstep he hd
      go_wp2_with (first | (at_builtin; refine holdL ?_))
      refine HoldL.go ?_
      refine append_one rfl _ _ 29 33 (.agg #[.int .i64 0, .int .i64 0]) 2 16 rfl Try.underlying29 Try.infoDue rfl (by omega) (by omega) u5 out.length (flat due out) #[.int .i64 d.1, .int .i64 d.2] wr.heap.size rfl rfl rfl rfl (by simp [Value.oneCell']) HOWN.out (by omega) ?_
      intro v1 w2 hown2 hg2 hat2
      have ho2 : Only (fun k => u5.ownBlock = some k) wr w2 := (Only.refl _ wr).grown hg2 fun k hk => .inl hk
      have hlowS : ∀ k, S k → k < w.heap.size := by obtain ⟨_, _, _, hw, _⟩ := HH.out; exact hw.low
      have ha2 := HA.out.other ho2 fun k hk hk' => by have := hlowS k hk; have := (HNE.out k hk').1; omega
      have hbx2 := ho2.obj HBX.out fun hk => (HNE.out b hk).2 rfl
      have hne2 : ∀ g, v1.ownBlock = some g → w.heap.size ≤ g ∧ g < w2.heap.size := by
        intro g hg
        refine ⟨?_, (hown2.lt g hg).2⟩
        rcases hat2 with e | e
        · rw [e] at hg; exact (HNE.out g hg).1
        · rw [e] at hg
          injection hg with hg
          have := HO.out.size
          omega
      have hO2 : Only S w w2 := HO.out.trans ho2 fun i hi hk => by have := (HNE.out i hk).1; omega
      have HOWN2 := Lib.hid hown2
      have HA2 := Lib.hid ha2
      have HBX2 := Lib.hid hbx2
      have HNE2 := Lib.hid hne2
      have HO2 := Lib.hid hO2
      have HLOW := Lib.hid hlowS
      clear hown2 hg2 hat2 ho2 hlowS ha2 hbx2 hne2 hO2 c0 c1 f0 f1
      go_wp2_with fail
      refine (drop_any pa 0 L' last S _ HA2.out hpos _ rfl).mono ?_
      rintro e w3 ⟨rfl, h3, ho3⟩
      have hbx3 := ho3.obj HBX2.out fun hk => by have := HLOW.out b hk; omega
      have hown3 := ho3.own HOWN2.out fun g hg hk => by have := HLOW.out g hk; have := (HNE2.out g hg).1; omega
      have hsz3 := ho3.size
      have hO3 := HO2.out.then_ ho3
      have c0 := cell_of_cells hbx3 0
      have c1 := cell_of_cells hbx3 1
      simp only [List.getElem?_toArray, List.getElem?_cons_zero, List.getElem?_cons_succ] at c0 c1
      have lb3 := lt_of_heap hbx3
      have H3 := Lib.hid h3
      have HOWN3 := Lib.hid hown3
      have HO3 := Lib.hid hO3
      clear h3 ho3 hbx3 hown3 hO3
      go_wp2_with fail
      refine (next_any pa (dropL L' 0) last S _ (H3.out.below ((Below.refl _ _).alloc (Nat.le_refl _) _))).mono ?_
      rintro e w4 ⟨rfl, hb4⟩
      have hbx4 := (hb4.block w3.heap.size (by simp)).trans (MapKept.heap_alloc w3 _).1
      have c04 := cell_of_cells hbx4 0
      have c14 := cell_of_cells hbx4 1
      have f04 := free_of_cells hbx4 0
      have f14 := free_of_cells hbx4 1
      simp only [List.getElem?_toArray, List.getElem?_cons_zero, List.getElem?_cons_succ] at c04 c14
      have hb34 : Below w3.heap.size w3 w4 := ((Below.refl _ _).alloc (Nat.le_refl _) _).trans (hb4.mono (by simp))
      have HB34 := Lib.hid hb34
      have HBX4 := Lib.hid hbx4
      clear hb4 hb34 hbx4
      go_wp2_with fail
      have hO5 : Only (fun k => k = w3.heap.size) w4 ((w4.setCell ⟨w3.heap.size, 0, none⟩ (.int .i64 ((dropL L' 0)[0]?.getD (0, 0)).fst)).setCell ⟨w3.heap.size, 1, none⟩ (.int .i64 ((dropL L' 0)[0]?.getD (0, 0)).snd)) :=
        ((Only.refl (fun k => k = w3.heap.size) w4).setCell (p := ⟨w3.heap.size, 0, none⟩) (.inl rfl) _).setCell (p := ⟨w3.heap.size, 1, none⟩) (.inl rfl) _
      have hA5 := (H3.out.below HB34.out).other hO5 fun k hk e => by have := HLOW.out k hk; have := HO3.out.size; omega
      go_roundw
      case rel =>
        have hb5 := heap_set_eq (i := 1) _ (.int .i64 ((dropL L' 0)[0]?.getD (0, 0)).snd) (heap_set_eq (i := 0) w4 (.int .i64 ((dropL L' 0)[0]?.getD (0, 0)).fst) HBX4.out)
        refine ⟨dropL L' 0, out ++ [d], w3.heap.size, rfl, rfl, by simpa using hb5, by have := HO3.out.size; omega, ?_, ?_, hA5, ?_, ?_, ?_⟩
        · have e : flat due (out ++ [d]) = flat due out ++ [.int .i64 d.1, .int .i64 d.2] := by rw [flat_append]; rfl
          rw [e, List.length_append, List.length_singleton]
          exact hO5.own ((Only.of_below (S := fun _ => False) HB34.out).own HOWN3.out fun _ _ x => x) fun g hg e => by
            have := (HOWN3.out.lt g hg).2
            omega
        · intro g hg
          refine ⟨(HNE2.out g hg).1, ?_⟩
          have := (HOWN3.out.lt g hg).2
          omega
        · exact (HO3.out.then_ (Only.of_below HB34.out)).trans hO5 fun i hi e => by have := HO3.out.size; omega
        · rw [dropL_length hpos]; simp; omega
        · rw [HR.out, HSTEP.out, dropL_length hpos]; simp
      case measure =>
        unfold takeM
        rw [takeM_eq hA5, takeM_eq HA.out, dropL_length hpos]
        omega
    · have hstop : takeL L'.length now L' = ([], L') := by
        cases h : L'.length with
        | zero => rfl
        | succ f => rw [takeL, if_neg hgo]
      have HSTOP := Lib.hid hstop
      clear hstop
      by_cases he : L'.isEmpty = true
      · rw [he]
        simp only [Bool.not_true]
        clear hgo
        have HE := Lib.hid he
        clear he
        go_wp2_with fail
        go_ret
        refine ⟨u5, rfl, ?_⟩
        rw [HR.out, HSTOP.out]
        simp only [List.append_nil]
        exact ⟨HOWN.out, fun g hg => (HNE.out g hg).1, HA.out, HO.out⟩
      · have he' : L'.isEmpty = false := by simpa using he
        have hd : ¬ (L'.getD 0 (0, 0)).1 ≤ now := by simpa [he'] using hgo
        obtain ⟨d, hdd⟩ : ∃ d, L'.getD 0 (0, 0) = d := ⟨_, rfl⟩
        rw [hdd] at hd c0
        rw [he']
        simp only [Bool.not_false]
        have HE := Lib.hid he'
        clear he' he hgo hdd
        go_wp2_with fail
        go_ret
        refine ⟨u5, rfl, ?_⟩
        rw [HR.out, HSTOP.out]
        simp only [List.append_nil]
        exact ⟨HOWN.out, fun g hg => (HNE.out g hg).1, HA.out, HO.out⟩
end Go.Proofs.Ytcnifhkgibopbaa
