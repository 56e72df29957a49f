/- The document's calls and the heap's say the same. -/
import Derived.Test.YtcnifhkgibopbaaRefD
import Derived.Test.YtcnifhkgibopbaaRefE
set_option linter.unusedVariables false
set_option linter.unusedSimpArgs false
namespace Go.Proofs.Ytcnifhkgibopbaa
open Go.RowKit Go.MapKept Go.ChangeMaps

theorem do_any (v : Value) (R : List D2) (last kind at_ id : Int) (w : World) (h : Rd due w v R) (hl : R.length ≤ 1000) (hla : 0 ≤ last ∧ last ≤ 100000) :
    Calls Try.prog 17 #[.agg #[v, .int .i64 last], .agg #[.int .i64 kind, .int .i64 at_, .int .i64 id]] w (DoPost w v (doR R last kind at_ id)) := by
  have klt : ∀ k, findL R id = some k → k < R.length := fun k hf => by
    obtain ⟨d, hd, _⟩ := findL_some hf
    exact (List.getElem?_eq_some_iff.1 hd).1
  by_cases hk : 0 ≤ kind ∧ kind ≤ 4
  · have : kind = 0 ∨ kind = 1 ∨ kind = 2 ∨ kind = 3 ∨ kind = 4 := by omega
    rcases this with rfl | rfl | rfl | rfl | rfl
    · cases hr : (decide (0 ≤ at_) && decide (at_ ≤ 1099511627776))
      · have e : doR R last 0 at_ id = ⟨R, last, 0, false, 1, []⟩ := by unfold doR; rw [if_pos rfl, hr]; rfl
        rw [e]; exact do_set_no v R last at_ id w h hl hr
      · have e : doR R last 0 at_ id = ⟨putL R (at_, last + 1), last + 1, last + 1, false, 0, []⟩ := by unfold doR; rw [if_pos rfl, hr]; rfl
        rw [e]; exact do_set_yes v R last at_ id w h hl hr hla
    · cases hf : findL R id with
      | none =>
        have e : doR R last 1 at_ id = ⟨R, last, 0, false, 0, []⟩ := by unfold doR; rw [if_neg (by decide), if_pos rfl, hf]
        rw [e]; exact do_can_no v R last at_ id w h hl hf
      | some k =>
        have e : doR R last 1 at_ id = ⟨R.eraseIdx k, last, 0, true, 0, []⟩ := by unfold doR; rw [if_neg (by decide), if_pos rfl, hf]
        rw [e]; exact do_can_yes v R last at_ id w h hl k hf (klt k hf)
    · cases hf : findL R id with
      | none =>
        have e : doR R last 2 at_ id = ⟨R, last, 0, false, 0, []⟩ := by unfold doR; rw [if_neg (by decide), if_neg (by decide), if_pos rfl, hf]
        rw [e]; exact do_mov_none v R last at_ id w h hl hf
      | some k =>
        cases hr : (decide (0 ≤ at_) && decide (at_ ≤ 1099511627776))
        · have e : doR R last 2 at_ id = ⟨R, last, 0, false, 0, []⟩ := by unfold doR; rw [if_neg (by decide), if_neg (by decide), if_pos rfl, hf, hr]; rfl
          rw [e]; exact do_mov_no v R last at_ id w h hl k hf hr
        · have e : doR R last 2 at_ id = ⟨putL (R.eraseIdx k) (at_, id), last, 0, true, 0, []⟩ := by unfold doR; rw [if_neg (by decide), if_neg (by decide), if_pos rfl, hf, hr]; rfl
          rw [e]; exact do_mov_yes v R last at_ id w h hl k hf (klt k hf) hr
    · cases hf : findL R id with
      | none =>
        have e : doR R last 3 at_ id = ⟨R, last, 0, false, 0, []⟩ := by unfold doR; rw [if_neg (by decide), if_neg (by decide), if_neg (by decide), if_pos rfl, hf]
        rw [e]; exact do_when_none v R last at_ id w h hl hf
      | some k =>
        have e : doR R last 3 at_ id = ⟨R, last, (fn R k).1, true, 0, []⟩ := by unfold doR; rw [if_neg (by decide), if_neg (by decide), if_neg (by decide), if_pos rfl, hf]
        rw [e]; exact do_when_yes v R last at_ id w h hl k hf (klt k hf)
    · exact do_take v R last at_ id w h hl
  · exact do_else v R last kind at_ id w h hl hk

theorem putL_perm : ∀ (R : List D2) (d : D2), (putL R d).Perm (d :: R) := by
  intro R d
  induction R with
  | nil => exact List.Perm.refl _
  | cons x r ih =>
    unfold putL
    split
    · exact List.Perm.refl _
    · exact (List.Perm.cons x ih).trans (List.Perm.swap d x r)
theorem putL_pair : ∀ (R : List D2) (d : D2), R.Pairwise le → (putL R d).Pairwise le := by
  intro R d
  induction R with
  | nil => intro _; simp [putL]
  | cons x r ih =>
    intro h
    have hx := List.pairwise_cons.1 h
    unfold putL
    split
    · rename_i ha
      rw [ahead_true] at ha
      refine List.pairwise_cons.2 ⟨fun y hy => ?_, h⟩
      rcases List.mem_cons.1 hy with rfl | hy
      · exact lt_le ha
      · exact le_trans' (lt_le ha) (hx.1 y hy)
    · rename_i ha
      rw [Bool.not_eq_true, ahead_false] at ha
      refine List.pairwise_cons.2 ⟨fun y hy => ?_, ih hx.2⟩
      rcases List.mem_cons.1 ((putL_perm r d).mem_iff.1 hy) with rfl | hy
      · exact ha
      · exact hx.1 y hy
theorem uq_perm {L M : List D2} (h : L.Perm M) (hu : Uq L) : Uq M := fun d hd d' hd' he => hu d (h.mem_iff.2 hd) d' (h.mem_iff.2 hd') he
theorem tick_sort {L : List D2} (hu : Uq L) (id : Int) : tickOf (sortL L) id = tickOf L id := by
  apply Option.ext
  intro t
  rw [tick_iff (uq_perm (sortL_perm L).symm hu), tick_iff hu, (sortL_perm L).mem_iff]
/-- Where a number stands in both. -/
theorem find_sort {L : List D2} (hu : Uq L) (id : Int) : (findL L id = none ∧ findL (sortL L) id = none) ∨
    ∃ k j d, findL L id = some k ∧ findL (sortL L) id = some j ∧ L[k]? = some d ∧ (sortL L)[j]? = some d ∧ d.2 = id := by
  have ht := tick_sort hu id
  cases hf : findL L id with
  | none =>
    left
    refine ⟨rfl, ?_⟩
    cases hg : findL (sortL L) id with
    | none => rfl
    | some j => unfold tickOf at ht; rw [hf, hg] at ht; cases ht
  | some k =>
    right
    cases hg : findL (sortL L) id with
    | none => unfold tickOf at ht; rw [hf, hg] at ht; cases ht
    | some j =>
      obtain ⟨d, hd, he⟩ := findL_some hf
      obtain ⟨d', hd', he'⟩ := findL_some hg
      have hm : d' ∈ L := (sortL_perm L).mem_iff.1 (List.mem_of_getElem? hd')
      have : d' = d := hu _ hm _ (List.mem_of_getElem? hd) (by rw [he, he'])
      subst this
      exact ⟨k, j, d', rfl, rfl, hd, hd', he⟩
theorem getElem_of {L : List D2} {k : Nat} {d : D2} (h : L[k]? = some d) : ∃ hk : k < L.length, L[k] = d := List.getElem?_eq_some_iff.1 h
theorem erase_perm {L : List D2} {k : Nat} {d : D2} (h : L[k]? = some d) : (d :: L.eraseIdx k).Perm L := by
  obtain ⟨hk, rfl⟩ := getElem_of h
  have e : L = L.take k ++ L[k] :: L.drop (k + 1) := by simp
  rw [List.eraseIdx_eq_take_drop_succ]
  conv => rhs; rw [e]
  exact List.perm_middle.symm
theorem set_perm {L : List D2} {k : Nat} (hk : k < L.length) (a : D2) : (L.set k a).Perm (a :: L.eraseIdx k) := by
  rw [List.set_eq_take_append_cons_drop, if_pos hk, List.eraseIdx_eq_take_drop_succ]
  exact List.perm_middle
theorem drop_sort {L : List D2} {k j : Nat} {d : D2} (hk : L[k]? = some d) (hj : (sortL L)[j]? = some d) : sortL (dropL L k) = (sortL L).eraseIdx j := by
  obtain ⟨hkl, hkd⟩ := getElem_of hk
  have p1 := drop_perm hkl
  rw [hkd] at p1
  have p2 := (erase_perm hj).trans (sortL_perm L)
  have p3 : ((sortL L).eraseIdx j).Perm (dropL L k) := (List.perm_cons d).1 (p2.trans p1.symm)
  exact (sorted_eq p3 ((sortL_pair L).sublist (List.eraseIdx_sublist _ _))).symm

/-- The call on a heap, and the document's call on the row in order. -/
theorem doR_doL {L : List D2} {last : Int} {n : Nat} (h : St L last n) (hx : ∃ m, Idx L m) (kind at_ id : Int) :
    doR (sortL L) last kind at_ id = ⟨sortL (doL L last kind at_ id).L, (doL L last kind at_ id).last, (doL L last kind at_ id).N, (doL L last kind at_ id).is, (doL L last kind at_ id).e, (doL L last kind at_ id).out⟩ := by
  obtain ⟨m, hx⟩ := hx
  have hu := hx.uq
  unfold doR doL
  by_cases k0 : kind = 0
  · rw [if_pos k0, if_pos k0]
    split
    · have e : sortL (setL L at_ (last + 1)) = putL (sortL L) (at_, last + 1) := by
        refine (sorted_eq ?_ (putL_pair _ _ (sortL_pair L))).symm
        refine (putL_perm _ _).trans ?_
        refine (List.Perm.cons _ (sortL_perm L)).trans ?_
        exact (List.perm_append_singleton _ _).symm.trans (set_perm' L at_ (last + 1)).symm
      rw [e]
    · rfl
  · rw [if_neg k0, if_neg k0]
    by_cases k1 : kind = 1
    · rw [if_pos k1, if_pos k1]
      rcases find_sort hu id with ⟨e1, e2⟩ | ⟨k, j, d, e1, e2, hk, hj, hd⟩
      · rw [e1, e2]
      · rw [e1, e2]
        simp only
        rw [drop_sort hk hj]
    · rw [if_neg k1, if_neg k1]
      by_cases k2 : kind = 2
      · rw [if_pos k2, if_pos k2]
        rcases find_sort hu id with ⟨e1, e2⟩ | ⟨k, j, d, e1, e2, hk, hj, hd⟩
        · rw [e1, e2]
        · rw [e1, e2]
          simp only
          split
          · obtain ⟨hkl, hkd⟩ := getElem_of hk
            have e : sortL (moveL L k at_) = putL ((sortL L).eraseIdx j) (at_, id) := by
              refine (sorted_eq ?_ (putL_pair _ _ ((sortL_pair L).sublist (List.eraseIdx_sublist _ _)))).symm
              have hp := move_perm hkl at_ (hx.rise_find hkl at_)
              rw [fn_of hk, hd] at hp
              refine (putL_perm _ _).trans ?_
              have p2 := (erase_perm hj).trans (sortL_perm L)
              have p3 : ((sortL L).eraseIdx j).Perm (L.eraseIdx k) := (List.perm_cons d).1 (p2.trans (erase_perm hk).symm)
              refine (List.Perm.cons _ p3).trans ?_
              exact (set_perm hkl (at_, id)).symm.trans hp.symm
            rw [e]
          · rfl
      · rw [if_neg k2, if_neg k2]
        by_cases k3 : kind = 3
        · rw [if_pos k3, if_pos k3]
          rcases find_sort hu id with ⟨e1, e2⟩ | ⟨k, j, d, e1, e2, hk, hj, hd⟩
          · rw [e1, e2]
          · rw [e1, e2]
            simp only
            rw [fn_of hk, fn_of hj]
        · rw [if_neg k3, if_neg k3]
          by_cases k4 : kind = 4
          · rw [if_pos k4, if_pos k4]
            obtain ⟨p1, s1, l1, g1, _⟩ := take_spec L.length at_ L (Nat.le_refl _) h.heap
            generalize (takeL L.length at_ L).1 = x at *
            generalize (takeL L.length at_ L).2 = L2 at *
            have e : sortL L = x ++ sortL L2 := by
              refine (sorted_eq ((List.Perm.append_left x (sortL_perm L2)).trans p1) ?_).symm
              rw [List.pairwise_append]
              refine ⟨s1, sortL_pair L2, fun a ha b hb => ?_⟩
              have := l1 a ha
              have := g1 b ((sortL_perm L2).mem_iff.1 hb)
              unfold le
              omega
            have f := while_split (p := fun d => decide (d.1 ≤ at_)) (x ++ sortL L2) x.length (by simp) (fun j d hj hd => by
                rw [List.getElem?_append_left hj] at hd
                have := l1 d (List.mem_of_getElem? hd)
                simpa using this) (fun d hd => by
                rw [List.getElem?_append_right (Nat.le_refl _)] at hd
                have := g1 d ((sortL_perm L2).mem_iff.1 (List.mem_of_getElem? hd))
                simp
                omega)
            rw [e, f.1, f.2]
            simp
          · rw [if_neg k4, if_neg k4]
end Go.Proofs.Ytcnifhkgibopbaa
