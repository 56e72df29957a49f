/- Gathered by a program of this session (shake.py): what the claim's theorem needs. -/
import Derived.StillTailTactics
import Derived.ScopeJumps
import Derived.WalkKit
import Derived.WalkSpells
import Derived.WalkLawsBesides
import Derived.BigQuiet
import Derived.Deep.QuietTactic
import Derived.Maps.Own
import Derived.Maps.AppendAt
import Derived.Laws.CopyOwn
import Derived.Deep.AppendLies
import Derived.MapKept
import Derived.Lib.Hide
import Derived.Outline
import Derived.Deep.RegionHeld3
import Derived.Deep.DeepCutAuto
import Derived.Test.YtcnifhkgibopbaaProg
import Derived.ProofKit
import Derived.OpenShut
import Derived.ChangeOld
import Derived.ChangeArms
import Derived.DataReads
import Derived.Deep.Slices
set_option linter.unusedVariables false
set_option linter.unusedSimpArgs false
set_option linter.unusedVariables false
set_option linter.unusedSimpArgs false
namespace Go.Proofs.Ytcnifhkgibopbaa
open Go.RowKit Go.MapKept Go.ChangeMaps
structure Only (S : Nat → Prop) (w w' : World) : Prop where
  os : w'.os = w.os
  tape : w'.tape = w.tape
  output : w'.output = w.output
  size : w.heap.size ≤ w'.heap.size
  block : ∀ k, k < w.heap.size → ¬ S k → w'.heap[k]? = w.heap[k]?
theorem Only.refl (S : Nat → Prop) (w : World) : Only S w w := ⟨rfl, rfl, rfl, Nat.le_refl _, fun _ _ _ => rfl⟩
theorem Only.drew {S : Nat → Prop} {w w' : World} (h : Only S w w') : Only S w w'.drew := ⟨h.os, h.tape, h.output, h.size, h.block⟩
theorem Only.drewN {S : Nat → Prop} {w w' : World} (h : Only S w w') (n : Nat) : Only S w (w'.drewN n) := ⟨h.os, h.tape, h.output, h.size, h.block⟩
theorem Only.mono {S S' : Nat → Prop} {w w' : World} (h : Only S w w') (hs : ∀ k, k < w.heap.size → S k → S' k) : Only S' w w' :=
  ⟨h.os, h.tape, h.output, h.size, fun k hk hn => h.block k hk fun hk' => hn (hs k hk hk')⟩
theorem Only.trans {S S' : Nat → Prop} {a b c : World} (h : Only S a b) (k : Only S' b c) (hs : ∀ i, i < a.heap.size → S' i → S i) : Only S a c :=
  ⟨k.os.trans h.os, k.tape.trans h.tape, k.output.trans h.output, Nat.le_trans h.size k.size, fun i hi hn =>
    (k.block i (Nat.lt_of_lt_of_le hi h.size) fun hk => hn (hs i hi hk)).trans (h.block i hi hn)⟩
theorem Only.then_ {S : Nat → Prop} {a b c : World} (h : Only S a b) (k : Only S b c) : Only S a c := h.trans k fun _ _ x => x
theorem Only.alloc {S : Nat → Prop} {a w : World} (h : Only S a w) (o : Obj) : Only S a (w.alloc o) :=
  h.trans (S' := fun _ => False) ⟨rfl, rfl, rfl, by simp, fun k hk _ => Below.heap_alloc _ _ _ hk⟩ fun _ _ x => x.elim
theorem Only.setCell {S : Nat → Prop} {a w : World} (h : Only S a w) {p : Addr} (hp : S p.block ∨ a.heap.size ≤ p.block) (u : Value) : Only S a (w.setCell p u) :=
  h.trans (S' := fun k => k = p.block) ⟨rfl, rfl, rfl, by simp, fun k hk hn => Below.heap_setCell _ _ _ _ hn⟩ fun i hi e => by
    subst e
    rcases hp with hp | hp
    · exact hp
    · omega
theorem Only.grown {S : Nat → Prop} {a w w' : World} {row : Option Nat} (h : Only S a w) (hg : w.grownBy w' row) (hr : ∀ k, row = some k → S k ∨ a.heap.size ≤ k) : Only S a w' :=
  h.trans (S' := fun k => row = some k) ⟨hg.os, hg.tape, hg.output, hg.size, fun k hk hn => hg.block k hk fun e => hn e.symm⟩ fun i hi e => by
    rcases hr i e with hp | hp
    · exact hp
    · omega
theorem Only.of_below {S : Nat → Prop} {w w' : World} (h : Below w.heap.size w w') : Only S w w' := ⟨h.os, h.tape, h.output, h.size, fun k hk _ => h.block k hk⟩
theorem Only.below {S : Nat → Prop} {B : Nat} {w w' : World} (h : Only S w w') (hB : B ≤ w.heap.size) (hs : ∀ k, S k → B ≤ k) : Below B w w' :=
  ⟨h.os, h.tape, h.output, h.size, fun k hk => h.block k (Nat.lt_of_lt_of_le hk hB) fun hk' => by have := hs k hk'; omega⟩
theorem Below.only {S : Nat → Prop} {B : Nat} {a w w' : World} (hb : Below B a w) (h : Only S w w') (hB : B ≤ w.heap.size) (hs : ∀ k, S k → B ≤ k) : Below B a w' :=
  hb.trans (h.below hB hs)
theorem Only.cell {S : Nat → Prop} {w w' : World} (h : Only S w w') {a : Addr} {v : Value} (hc : w.cell? a = some v) (hs : ¬ S a.block) : w'.cell? a = some v :=
  (World.cell?_of_block (h.block a.block (World.block_lt_of_cell? w a hc) hs)).trans hc
theorem lt_of_heap {w : World} {b : Nat} {o : Obj} (h : w.heap[b]? = some o) : b < w.heap.size := (Array.getElem?_eq_some_iff.1 h).1
theorem Only.obj {S : Nat → Prop} {w w' : World} (h : Only S w w') {b : Nat} {o : Obj} (hc : w.heap[b]? = some o) (hs : ¬ S b) : w'.heap[b]? = some o :=
  (h.block b (lt_of_heap hc) hs).trans hc
theorem Only.own {S : Nat → Prop} {w w' : World} (h : Only S w w') {base : Nat} {e : TypeId} {size : Nat} {v : Value} {n : Nat} {xs : List Value} (hc : w.ownsRow base e size v n xs) (hs : ∀ g, v.ownBlock = some g → ¬ S g) : w'.ownsRow base e size v n xs := by
  refine ⟨hc.1, ?_⟩
  rcases hc.2 with hn | ⟨g, cap, cur, rfl, hb, hgg, rest⟩
  · exact .inl hn
  · exact .inr ⟨g, cap, cur, rfl, hb, h.obj hgg (hs g rfl), rest⟩
theorem heap_alloc_lt (w : World) (o : Obj) {b : Nat} {x : Obj} (h : w.heap[b]? = some x) : (w.alloc o).heap[b]? = some x := by
  rw [Below.heap_alloc _ _ _ (lt_of_heap h)]; exact h
theorem heap_two (w : World) (a b : Obj) : ((w.alloc a).alloc b).heap[w.heap.size]? = some a ∧ ((w.alloc a).alloc b).heap[w.heap.size + 1]? = some b :=
  ⟨heap_alloc_lt _ _ (MapKept.heap_alloc w a).1, by have := (MapKept.heap_alloc (w.alloc a) b).1; simpa using this⟩
theorem heap_set_ne (w : World) (a : Addr) (v : Value) {b : Nat} {x : Obj} (h : w.heap[b]? = some x) (hne : b ≠ a.block) : (w.setCell a v).heap[b]? = some x := by
  rw [Below.heap_setCell _ _ _ _ hne]; exact h
theorem heap_set_eq (w : World) {b i : Nat} (v : Value) {c : Array Value} {e : TypeId} {f : Nat × Nat} (h : w.heap[b]? = some (.cells c e f)) : (w.setCell ⟨b, i, none⟩ v).heap[b]? = some (.cells (c.setIfInBounds i v) e f) := by
  simp [World.setCell, Array.getElem?_modify, h]
theorem cell_of_cells {w : World} {b : Nat} {c : Array Value} {e : TypeId} (h : w.heap[b]? = some (.cells c e (0, 0))) (i : Nat) : w.cell? ⟨b, i, none⟩ = c[i]? := by
  simp [World.cell?, h]
theorem free_of_cells {w : World} {b : Nat} {c : Array Value} {e : TypeId} (h : w.heap[b]? = some (.cells c e (0, 0))) (i : Nat) : w.frozen? ⟨b, i, none⟩ = false := by
  simp [World.frozen?, h]
section
variable {κ α : Type}
def mget [DecidableEq κ] (m : List (κ × α)) (x : κ) : Option α := (m.find? fun p => p.1 == x).map (·.2)
def mput [DecidableEq κ] (m : List (κ × α)) (x : κ) (v : α) : List (κ × α) := if m.any (fun p => p.1 == x) then m.map (fun p => if p.1 = x then (x, v) else p) else m ++ [(x, v)]
def mdel [DecidableEq κ] (m : List (κ × α)) (x : κ) : List (κ × α) := m.filter fun p => !(p.1 == x)
def GMap (P : Program) (kt : TypeId) (kf : κ → Value) (ok : κ → Prop) (vf : α → Value) (w : World) (b : Nat) (m : List (κ × α)) : Prop :=
  ∃ es clock, w.heap[b]? = some (.map es clock) ∧ es.toList.map (fun x => (x.key, x.val)) = m.map (fun p => (kf p.1, vf p.2)) ∧ Stamped es clock ∧ (∀ p ∈ m, ok p.1)
structure KeyLike (P : Program) (kt : TypeId) (kf : κ → Value) (ok : κ → Prop) : Prop where
  keyed : Maps.Keyed P kt
  read : ∀ x, ok x → ∃ l, keyOf P kt (kf x) = some l
  inj : ∀ x y, kf x = kf y → x = y
variable {P : Program} {kt : TypeId} {kf : κ → Value} {ok : κ → Prop} {vf : α → Value} {w : World} {b : Nat} {m : List (κ × α)}
theorem GMap.lt (h : GMap P kt kf ok vf w b m) : b < w.heap.size := by
  obtain ⟨es, clock, hb, _⟩ := h
  exact lt_of_heap hb
theorem GMap.of_block {w' : World} (h : GMap P kt kf ok vf w b m) (e : w'.heap[b]? = w.heap[b]?) : GMap P kt kf ok vf w' b m := by
  obtain ⟨es, clock, hb, r⟩ := h
  exact ⟨es, clock, e.trans hb, r⟩
theorem GMap.only {S : Nat → Prop} {w' : World} (h : GMap P kt kf ok vf w b m) (ho : Only S w w') (hs : ¬ S b) : GMap P kt kf ok vf w' b m := h.of_block (ho.block b h.lt hs)
theorem GMap.alloc (h : GMap P kt kf ok vf w b m) (o : Obj) : GMap P kt kf ok vf (w.alloc o) b m := h.of_block (Below.heap_alloc _ _ _ h.lt)
theorem GMap.drew (h : GMap P kt kf ok vf w b m) : GMap P kt kf ok vf w.drew b m := h
theorem GMap.made (w : World) : GMap P kt kf ok vf (w.alloc (.map #[] 0)) w.heap.size ([] : List (κ × α)) :=
  ⟨#[], 0, (MapKept.heap_alloc w _).1, rfl, stamped_empty 0, by simp⟩
theorem entry_at {es : List MapEntry} (he : es.map (fun x => (x.key, x.val)) = m.map (fun p => (kf p.1, vf p.2))) (j : Nat) {x : MapEntry} (hx : es[j]? = some x) : ∃ p, m[j]? = some p ∧ x.key = kf p.1 ∧ x.val = vf p.2 := by
  have h := congrArg (fun l => l[j]?) he
  simp only [List.getElem?_map, hx, Option.map_some] at h
  cases hm : m[j]? with
  | none => rw [hm] at h; cases h
  | some p =>
    rw [hm] at h
    simp only [Option.map_some, Option.some.injEq, Prod.mk.injEq] at h
    exact ⟨p, rfl, h.1, h.2⟩
theorem nodup_of (K : KeyLike P kt kf ok) {es : Array MapEntry} {clock : Nat} (he : es.toList.map (fun x => (x.key, x.val)) = m.map (fun p => (kf p.1, vf p.2))) (hs : Stamped es clock) : (m.map (·.1)).Nodup := by
  have h1 := ((stamped_iff es clock).1 hs).2.2
  have h2 : (es.toList.map (fun x => (x.key, x.val))).Pairwise (fun p q => p.1 ≠ q.1) := by rw [List.pairwise_map]; exact h1
  rw [he, List.pairwise_map] at h2
  show (m.map (·.1)).Pairwise (· ≠ ·)
  rw [List.pairwise_map]
  exact h2.imp fun h e => h (by simp only []; rw [e])
theorem GMap.nodup (K : KeyLike P kt kf ok) (h : GMap P kt kf ok vf w b m) : (m.map (·.1)).Nodup := by
  obtain ⟨es, clock, hb, he, hs, _⟩ := h
  exact nodup_of K he hs
theorem find_of (K : KeyLike P kt kf ok) {es : Array MapEntry} (he : es.toList.map (fun x => (x.key, x.val)) = m.map (fun p => (kf p.1, vf p.2))) (hok : ∀ p ∈ m, ok p.1) (w : World) (x : κ) (hx : ok x) :
    ((Instr.findKey kt (kf x) es.toList).run P w = .ok none w ∧ (∀ p ∈ m, p.1 ≠ x) ∧ ∀ e ∈ es.toList, e.key ≠ kf x) ∨
    ∃ j e v, (Instr.findKey kt (kf x) es.toList).run P w = .ok (some (j, vf v)) w ∧ es.toList[j]? = some e ∧ e.key = kf x ∧ e.val = vf v ∧ m[j]? = some (x, v) := by
  obtain ⟨l, hl⟩ := K.read x hx
  have hes : ∀ e ∈ es.toList, ∃ l, keyOf P kt e.key = some l := by
    intro e h
    obtain ⟨j, hj⟩ := List.mem_iff_getElem?.1 h
    obtain ⟨p, hp, h1, _⟩ := entry_at he j hj
    rw [h1]
    exact K.read _ (hok p (List.mem_of_getElem? hp))
  rcases K.keyed.find w hl es.toList hes with ⟨h1, h2⟩ | ⟨j, e, h1, h2, h3⟩
  · refine .inl ⟨h1, fun p hp ex => ?_, h2⟩
    have : (kf p.1, vf p.2) ∈ es.toList.map (fun x => (x.key, x.val)) := by rw [he]; exact List.mem_map.2 ⟨p, hp, rfl⟩
    obtain ⟨e, h, hee⟩ := List.mem_map.1 this
    simp only [Prod.mk.injEq] at hee
    exact h2 e h (by rw [hee.1, ex])
  · obtain ⟨p, hp, h4, h5⟩ := entry_at he j h2
    have : p.1 = x := K.inj _ _ (by rw [← h4, h3])
    refine .inr ⟨j, e, p.2, by rw [← h5]; exact h1, h2, h3, h5, ?_⟩
    rw [hp, ← this]
section
variable [DecidableEq κ]
theorem mget_none {x : κ} (h : ∀ p ∈ m, p.1 ≠ x) : mget m x = none := by
  unfold mget
  rw [List.find?_eq_none.2 (by intro p hp; simpa using h p hp)]; rfl
theorem mget_some {x : κ} {v : α} {j : Nat} (hn : (m.map (·.1)).Nodup) (h : m[j]? = some (x, v)) : mget m x = some v := by
  unfold mget
  induction m generalizing j with
  | nil => simp at h
  | cons p r ih =>
    rw [List.find?_cons]
    by_cases hp : p.1 = x
    · simp only [hp, beq_self_eq_true]
      cases j with
      | zero => simp at h; rw [h]; rfl
      | succ j =>
        simp only [List.getElem?_cons_succ] at h
        simp only [List.map_cons, List.nodup_cons] at hn
        exact absurd (List.mem_map.2 ⟨(x, v), List.mem_of_getElem? h, hp.symm⟩) hn.1
    · have : (p.1 == x) = false := by simpa using hp
      simp only [this]
      cases j with
      | zero => simp at h; exact absurd (by rw [h]) hp
      | succ j =>
        simp only [List.map_cons, List.nodup_cons] at hn
        exact ih hn.2 (by simpa using h)
theorem mput_none {x : κ} {v : α} (h : ∀ p ∈ m, p.1 ≠ x) : mput m x v = m ++ [(x, v)] := by
  unfold mput
  rw [if_neg]
  simp only [List.any_eq_true, not_exists, not_and]
  intro p hp; simpa using h p hp
theorem mput_some {x : κ} {v v0 : α} {j : Nat} (hn : (m.map (·.1)).Nodup) (h : m[j]? = some (x, v0)) : mput m x v = m.set j (x, v) := by
  unfold mput
  rw [if_pos (by simp only [List.any_eq_true]; exact ⟨_, List.mem_of_getElem? h, by simp⟩)]
  apply List.ext_getElem?
  intro i
  rw [List.getElem?_map, List.getElem?_set]
  have hj : j < m.length := (List.getElem?_eq_some_iff.1 h).1
  by_cases e : j = i
  · subst e
    rw [h, if_pos rfl, if_pos hj]; simp
  · rw [if_neg e]
    cases hi : m[i]? with
    | none => rfl
    | some q =>
      simp only [Option.map_some, Option.some.injEq]
      rw [if_neg]
      intro hq
      have h1 : (m.map (·.1))[i]? = some x := by rw [List.getElem?_map, hi]; simp [hq]
      have h2 : (m.map (·.1))[j]? = some x := by rw [List.getElem?_map, h]; simp
      obtain ⟨l1, e1⟩ := List.getElem?_eq_some_iff.1 h1
      obtain ⟨l2, e2⟩ := List.getElem?_eq_some_iff.1 h2
      exact e ((List.getElem_inj hn).1 (e2.trans e1.symm))
theorem mdel_none {x : κ} (h : ∀ p ∈ m, p.1 ≠ x) : mdel m x = m := by
  unfold mdel
  rw [List.filter_eq_self]
  intro p hp; simpa using h p hp
theorem mdel_some {x : κ} {v0 : α} {j : Nat} (hn : (m.map (·.1)).Nodup) (h : m[j]? = some (x, v0)) : mdel m x = m.eraseIdx j := by
  unfold mdel
  induction m generalizing j with
  | nil => simp at h
  | cons p r ih =>
    simp only [List.map_cons, List.nodup_cons] at hn
    cases j with
    | zero =>
      simp at h
      subst h
      simp only [List.filter_cons, beq_self_eq_true, Bool.not_true, Bool.false_eq_true, if_false, List.eraseIdx_cons_zero]
      rw [List.filter_eq_self]
      intro q hq
      have : q.1 ≠ x := fun e => hn.1 (by simp only []; rw [← e]; exact List.mem_map.2 ⟨q, hq, rfl⟩)
      simpa using this
    | succ j =>
      simp only [List.getElem?_cons_succ] at h
      have hp : p.1 ≠ x := fun e => hn.1 (by rw [e]; exact List.mem_map.2 ⟨_, List.mem_of_getElem? h, rfl⟩)
      have : (p.1 == x) = false := by simpa using hp
      simp only [List.filter_cons, this, Bool.not_false, if_true, List.eraseIdx_cons_succ]
      rw [ih hn.2 h]
theorem GMap.lookup {t e : TypeId} (h : GMap P kt kf ok vf w b m) (K : KeyLike P kt kf ok) (ht : P.underlying t = some (.map kt e)) {z : Value} (hz : (zeroValue e).run P w = .ok z w) (x : κ) (hx : ok x) (c : Bool) :
    (Instr.lookup t (.map (some b)) (kf x) c).run P w = .ok (match mget m x with
      | some v => if c then .tuple #[vf v, .bool true] else vf v
      | none => if c then .tuple #[z, .bool false] else z) w := by
  obtain ⟨es, clock, hb, he, hs, hok⟩ := h
  obtain ⟨l, hl⟩ := K.read x hx
  rcases find_of K he hok w x hx with ⟨h1, h2, _⟩ | ⟨j, e0, v, h1, h2, h3, h4, h5⟩
  · rw [mget_none h2]
    simp [Instr.lookup, run_underlying ht, MapKept.run_getObj_map hb, K.keyed.check w _ hl, h1, hz, Result.andThen]
  · rw [mget_some (nodup_of K he hs) h5]
    simp [Instr.lookup, run_underlying ht, MapKept.run_getObj_map hb, K.keyed.check w _ hl, h1, Result.andThen]
theorem heap_setBlock_self {w : World} {b : Nat} (h : b < w.heap.size) (o' : Obj) : (setBlock w b o').heap[b]? = some o' := by
  simp [setBlock, h]
theorem GMap.update {t e : TypeId} (h : GMap P kt kf ok vf w b m) (K : KeyLike P kt kf ok) (ht : P.underlying t = some (.map kt e)) (x : κ) (hx : ok x) (v : α) :
    ∃ w', (Instr.mapUpdate t (.map (some b)) (kf x) (vf v)).run P w = .ok () w' ∧ GMap P kt kf ok vf w' b (mput m x v) ∧ Only (· = b) w w' := by
  have hlt := h.lt
  obtain ⟨es, clock, hb, he, hs, hok⟩ := h
  obtain ⟨l, hl⟩ := K.read x hx
  have honly : ∀ o', Only (· = b) w (setBlock w b o') := fun o' => ⟨rfl, rfl, rfl, by simp [setBlock], fun i _ hi => heap_setBlock_other hb _ hi⟩
  have hn := nodup_of K he hs
  rcases find_of K he hok w x hx with ⟨h1, h2, h2'⟩ | ⟨j, e0, v0, h1, h2, h3, h4, h5⟩
  · refine ⟨_, by simp [Instr.mapUpdate, run_underlying ht, MapKept.run_getObj_map hb, K.keyed.check w false hl, h1, MapKept.run_setObj_map _ hb, Result.andThen, setBlock], ?_, honly (.map (es.push ⟨kf x, vf v, clock⟩) (clock + 1))⟩
    refine ⟨_, _, heap_setBlock_self hlt _, ?_, stamped_push hs h2', ?_⟩
    · rw [mput_none h2]; simp [he]
    · rw [mput_none h2]
      intro p hp
      rcases List.mem_append.1 hp with hp | hp
      · exact hok p hp
      · simp at hp; rw [hp]; exact hx
  · have hj : es[j]? = some e0 := by simpa using h2
    have hkeyf : ∀ e', es[j]? = some e' → ({ e' with key := kf x, val := vf v } : MapEntry).key = e'.key := fun e' he' => by rw [hj] at he'; cases he'; exact h3.symm
    have hlist : (es.modify j (fun e' => { e' with key := kf x, val := vf v })).toList = es.toList.set j { e0 with key := kf x, val := vf v } := by rw [Array.toList_modify, modify_eq_set _ _ _ _ h2]
    refine ⟨_, by simp [Instr.mapUpdate, run_underlying ht, MapKept.run_getObj_map hb, K.keyed.check w false hl, h1, hj, h3, K.keyed.stays w hl, MapKept.run_setObj_map _ hb, Result.andThen, setBlock], ?_, honly (.map (es.modify j (fun e' => { e' with key := kf x, val := vf v })) clock)⟩
    refine ⟨_, _, heap_setBlock_self hlt _, ?_, stamped_modify hs _ _ (fun _ _ => rfl) (fun e' _ he' => hkeyf e' he'), ?_⟩
    · rw [mput_some hn h5, hlist, List.map_set, List.map_set, he]
    · rw [mput_some hn h5]
      intro p hp
      rcases List.mem_or_eq_of_mem_set hp with hp | rfl
      · exact hok p hp
      · exact hx
theorem GMap.delete {t e ty : TypeId} (h : GMap P kt kf ok vf w b m) (K : KeyLike P kt kf ok) (ht : P.underlying t = some (.map kt e)) (x : κ) (hx : ok x) :
    ∃ w', (Builtin.delete_ #[t, kt] ty #[.map (some b), kf x]).run P w = .ok (.tuple #[]) w' ∧ GMap P kt kf ok vf w' b (mdel m x) ∧ Only (· = b) w w' := by
  have hlt := h.lt
  obtain ⟨es, clock, hb, he, hs, hok⟩ := h
  obtain ⟨l, hl⟩ := K.read x hx
  have honly : ∀ o', Only (· = b) w (setBlock w b o') := fun o' => ⟨rfl, rfl, rfl, by simp [setBlock], fun i _ hi => heap_setBlock_other hb _ hi⟩
  have hn := nodup_of K he hs
  have hsub : ∀ p ∈ mdel m x, ok p.1 := fun p hp => hok p (List.mem_filter.1 hp).1
  rcases find_of K he hok w x hx with ⟨h1, h2, h2'⟩ | ⟨j, e0, v0, h1, h2, h3, h4, h5⟩
  · refine ⟨_, by simp [Builtin.delete_, run_underlying ht, MapKept.run_getObj_map hb, K.keyed.check w _ hl, h1, MapKept.run_setObj_map _ hb, Result.andThen, setBlock], ?_, honly (.map es clock)⟩
    exact ⟨_, _, heap_setBlock_self hlt _, by rw [mdel_none h2]; exact he, hs, hsub⟩
  · have hjl : j < es.toList.length := (List.getElem?_eq_some_iff.1 h2).1
    have hjs : j < es.size := by simpa using hjl
    have hl2 : (es.eraseIdxIfInBounds j).toList = es.toList.eraseIdx j := by
      unfold Array.eraseIdxIfInBounds
      rw [dif_pos hjs]
      simp
    refine ⟨_, by simp [Builtin.delete_, run_underlying ht, MapKept.run_getObj_map hb, K.keyed.check w _ hl, h1, MapKept.run_setObj_map _ hb, Result.andThen, setBlock], ?_, honly (.map (es.eraseIdxIfInBounds j) clock)⟩
    refine ⟨_, _, heap_setBlock_self hlt _, ?_, stamped_erase hs j, hsub⟩
    rw [mdel_some hn h5, hl2, map_eraseIdx, map_eraseIdx, he]
omit [DecidableEq κ] in
theorem GMap.len {t e ty : TypeId} (h : GMap P kt kf ok vf w b m) (ht : P.underlying t = some (.map kt e)) :
    (Builtin.len_ #[t] ty #[.map (some b)]).run P w = .ok (.int .i64 m.length) w := by
  obtain ⟨es, clock, hb, he, hs, hok⟩ := h
  have : es.size = m.length := by have := congrArg List.length he; simpa using this
  simp [Builtin.len_, run_underlying ht, MapKept.run_getObj_map hb, goInt, this]
end
end
def ik (x : Int) : Value := .int .i64 x
def iok (x : Int) : Prop := (Lit.int .i64 x).wf = true
theorem int_like {P : Program} {kt : TypeId} (hk : P.underlying kt = some (.int .i64)) : KeyLike P kt ik iok where
  keyed := Maps.int_keyed hk
  read x hx := ⟨_, Maps.keyOf_int_mk hk hx⟩
  inj x y h := by unfold ik at h; injection h
theorem gen_world {P : Program} {c : Code} {Q : Exit → Act → World → Prop} {a : Act} {w : World} (R : World → Prop) (hr : R w) (h : ∀ W, R W → Code.wp P c Q a W) : Code.wp P c Q a w := h w hr
theorem wp_scope_back {P : Program} {rest : Code} {Q : Exit → Act → World → Prop} {a : Act} {w : World} (l : Nat) (J : Act → World → Prop) (μ : Act → World → Nat) (h0 : J a w)
    (pass : ∀ a w, J a w → rest.wp P (Exit.jump l (fun a' w' => J a' w' ∧ μ a' w' < μ a w) Q) a w) : (Code.scope ((Code.label l).seq rest)).wp P Q a w := by
  refine wp_scope_jumps (rest := Code.skip.seq rest) l J μ (by simp [findLabel]) ?_ ?_
  · refine wp_seq (wp_label ?_)
    refine Code.wp_mono ?_ (pass a w h0)
    intro e a' w' h
    cases e <;> first | exact h | exact ⟨h.1, h.2.1⟩
  · intro a' w' h
    exact wp_seq (wp_skip (pass a' w' h))
def HoldL (p : Prop) : Prop := p
theorem holdL {p : Prop} (h : HoldL p) : p := h
theorem HoldL.go {p : Prop} (h : p) : HoldL p := h
theorem append_one {P : Program} {ops : Array Oper} {rest : List Oper} {o : Oper} {a : Act} {Q : Exit → Act → World → Prop} {W : World} (hgd : o.guard = none) (s x : Operand) (t e : TypeId) (z : Value) (size bytes : Nat)
    (ho : o.op = .call { callee := .builtin .append, args := #[s, x], argTypes := #[t, t] }) (ht : P.underlying t = some (.slice e))
    (hinfo : (P.info? e).map (fun i => (i.zero, i.size, i.bytes)) = some (some z, size, bytes)) (hz : z.cells.size = size) (hsz : 0 < size) (hb0 : 0 < bytes)
    (v : Value) (n : Nat) (xs : List Value) (cs : Array Value) (B : Nat) (hs : a.eval s = v) (hx : a.eval x = .slice (some ⟨B, 0, none⟩) 1 1) (hB : B = W.heap.size) (hcs : cs.size = size) (h1 : ∀ u ∈ cs.toList, u.oneCell' = true)
    (HO : W.ownsRow 0 e size v n xs) (hl : (n + 1) * bytes ≤ 140737488355328)
    (h : ∀ v1 w1, w1.ownsRow 0 e size v1 (n + 1) (xs ++ cs.toList) → W.grownBy w1 v.ownBlock → (v1.ownBlock = v.ownBlock ∨ v1.ownBlock = some (W.heap.size + 1)) → wpList P ops Q rest (a.put o.dst v1) w1) :
    wpList P ops Q (o :: rest) a (W.alloc (.cells cs e)) := by
  subst hB
  obtain ⟨i0, hi, hzz⟩ := Option.map_eq_some_iff.1 hinfo
  simp only [Prod.mk.injEq] at hzz
  obtain ⟨hz0, hz1, hz2⟩ := hzz
  have hlen : n + 1 ≤ 140737488355328 := Nat.le_trans (Nat.le_mul_of_pos_right _ hb0) hl
  refine wpList_append_own_at (W.alloc (.cells cs e)) hgd s x t ho 0 e i0 z size bytes ht hi hz0 hz1 hz2 hz hsz v n xs hs (HO.alloc _) ⟨W.heap.size, 0, none⟩ 1 1 cs.toList hx (by simp [hcs])
    (World.news_of_block (cs := cs) (t := e) (fr := (0, 0)) (heap_alloc_new W _)) h1 (by simp only [maxLen]; omega) hl (by simp) ?_
  intro v1 w1 hown hg _ hat
  refine h v1 w1 hown (World.grownBy.trans (World.grownBy_alloc W _ _) hg) ?_
  rcases hat with hat | hat
  · exact .inl hat
  · exact .inr (by rw [hat]; simp)
def flat {α : Type} (f : α → List Value) (l : List α) : List Value := l.flatMap f
theorem flat_append {α : Type} (f : α → List Value) (a b : List α) : flat f (a ++ b) = flat f a ++ flat f b := by simp [flat]
theorem flat_length {α : Type} {f : α → List Value} {s : Nat} (hf : ∀ x, (f x).length = s) (l : List α) : (flat f l).length = l.length * s := by
  induction l with
  | nil => simp [flat]
  | cons x r ih => simp only [flat, List.flatMap_cons, List.length_append, hf, List.length_cons] at *; rw [ih, Nat.add_mul]; omega
theorem flat_at {α : Type} {f : α → List Value} {s : Nat} (hf : ∀ x, (f x).length = s) : ∀ (l : List α) (k : Nat) (x : α) (j : Nat), l[k]? = some x → j < s → (flat f l)[k * s + j]? = (f x)[j]?
  | [], k, x, j, h, _ => by simp at h
  | y :: r, 0, x, j, h, hj => by
    simp at h; subst h
    simp only [flat, List.flatMap_cons, Nat.zero_mul, Nat.zero_add]
    rw [List.getElem?_append_left (by rw [hf]; exact hj)]
  | y :: r, k + 1, x, j, h, hj => by
    simp only [List.getElem?_cons_succ] at h
    have := flat_at hf r k x j h hj
    simp only [flat, List.flatMap_cons] at *
    rw [List.getElem?_append_right (by rw [hf, Nat.add_mul]; omega), hf, ← this, Nat.add_mul]
    congr 1
    omega
theorem flat_set {α : Type} {f : α → List Value} {s : Nat} (hf : ∀ x, (f x).length = s) (l : List α) (k : Nat) (hk : k < l.length) (x : α) :
    flat f (l.set k x) = (flat f l).take (k * s) ++ f x ++ (flat f l).drop (k * s + s) := by
  have e : l = l.take k ++ l[k] :: l.drop (k + 1) := by simp
  have hl : (l.take k).length = k := by simp; omega
  have h1 : l.set k x = l.take k ++ x :: l.drop (k + 1) := by
    rw [List.set_eq_take_append_cons_drop, if_pos hk]
  have t1 : (flat f l) = flat f (l.take k) ++ (f l[k] ++ flat f (l.drop (k + 1))) := by
    conv => lhs; rw [e]
    show List.flatMap f _ = List.flatMap f _ ++ (f _ ++ List.flatMap f _)
    rw [List.flatMap_append, List.flatMap_cons]
  have t2 : (flat f (l.take k)).length = k * s := by rw [flat_length hf, hl]
  rw [h1, t1]
  rw [List.take_left' t2]
  have t3 : (flat f (l.take k) ++ (f l[k] ++ flat f (l.drop (k + 1)))).drop (k * s + s) = flat f (l.drop (k + 1)) := by
    rw [← List.append_assoc]
    exact List.drop_left' (by rw [List.length_append, t2, hf])
  rw [t3]
  simp [flat]
end Go.Proofs.Ytcnifhkgibopbaa
set_option linter.unusedVariables false
set_option linter.unusedSimpArgs false
namespace Go.Proofs.Ytcnifhkgibopbaa
open Go.RowKit Go.MapKept Go.ChangeMaps
def due (d : Int × Int) : List Value := [.int .i64 d.1, .int .i64 d.2]
theorem due_length (d : Int × Int) : (due d).length = 2 := rfl
def nk (k : Nat) : Value := .int .i64 k
structure AlmRaw (w : World) (pa mb : Nat) (v : Value) (L : List (Int × Int)) (m : List (Int × Nat)) (last : Int) (S : Nat → Prop) : Prop where
  box : w.heap[pa]? = some (.cells #[v, .map (some mb), .int .i64 last] 62 (0, 0))
  row : w.ownsRow 0 33 2 v L.length (flat due L)
  map : GMap Try.prog 3 ik iok nk w mb m
  inS : S pa ∧ S mb ∧ ∀ g, v.ownBlock = some g → S g ∧ g ≠ pa ∧ g ≠ mb
  ne : pa ≠ mb
  low : ∀ k, S k → k < w.heap.size
theorem AlmRaw.drew {w : World} {pa mb : Nat} {v : Value} {L : List (Int × Int)} {m : List (Int × Nat)} {last : Int} {S : Nat → Prop} (h : AlmRaw w pa mb v L m last S) : AlmRaw w.drew pa mb v L m last S :=
  ⟨h.box, h.row, h.map, h.inS, h.ne, h.low⟩
theorem AlmRaw.other {w w' : World} {pa mb : Nat} {v : Value} {L : List (Int × Int)} {m : List (Int × Nat)} {last : Int} {S S' : Nat → Prop} (h : AlmRaw w pa mb v L m last S) (ho : Only S' w w') (hd : ∀ k, S k → ¬ S' k) : AlmRaw w' pa mb v L m last S :=
  ⟨ho.obj h.box (hd _ h.inS.1), ho.own h.row fun g hg => hd _ (h.inS.2.2 g hg).1, h.map.only ho (hd _ h.inS.2.1), h.inS, h.ne, fun k hk => Nat.lt_of_lt_of_le (h.low k hk) ho.size⟩
theorem AlmRaw.alloc {w : World} {pa mb : Nat} {v : Value} {L : List (Int × Int)} {m : List (Int × Nat)} {last : Int} {S : Nat → Prop} (h : AlmRaw w pa mb v L m last S) (o : Obj) : AlmRaw (w.alloc o) pa mb v L m last S :=
  h.other (S' := fun _ => False) ((Only.refl _ w).alloc o) fun _ _ x => x
theorem flat_due_at {L : List (Int × Int)} {k : Nat} {d : Int × Int} (h : L[k]? = some d) : (flat due L)[k * 2]? = some (.int .i64 d.1) ∧ (flat due L)[k * 2 + 1]? = some (.int .i64 d.2) :=
  ⟨by have := flat_at due_length L k d 0 h (by omega); simpa [due] using this, by have := flat_at due_length L k d 1 h (by omega); simpa [due] using this⟩
theorem flat_due_set (L : List (Int × Int)) (k : Nat) (hk : k < L.length) (x y : Int) : ((flat due L).set (k * 2) (.int .i64 x)).set (k * 2 + 1) (.int .i64 y) = flat due (L.set k (x, y)) := by
  rw [flat_set due_length L k hk]
  have hl : (flat due L).length = L.length * 2 := flat_length due_length L
  apply List.ext_getElem?
  intro i
  rw [List.getElem?_set, List.getElem?_set]
  simp only [List.length_set, due]
  rw [List.append_assoc, List.getElem?_append]
  rw [List.length_take, Nat.min_eq_left (by omega)]
  by_cases h1 : i < k * 2
  · rw [if_neg (by omega), if_neg (by omega), if_pos h1, List.getElem?_take, if_pos h1]
  · rw [if_neg h1]
    by_cases h2 : k * 2 = i
    · subst h2
      rw [if_neg (by omega), if_pos rfl, if_pos (by omega)]; simp
    · by_cases h3 : k * 2 + 1 = i
      · subst h3
        rw [if_pos rfl, if_pos (by omega)]; simp
      · rw [if_neg h3, if_neg h2]
        rw [List.getElem?_append_right (by simp; omega), List.getElem?_drop]
        congr 1
        simp
        omega
theorem AlmRaw.cells {w : World} {pa mb g cap : Nat} {L : List (Int × Int)} {m : List (Int × Nat)} {last : Int} {S : Nat → Prop} (h : AlmRaw w pa mb (.slice (some ⟨g, 0, none⟩) L.length cap) L m last S) {k : Nat} {d : Int × Int} (hk : L[k]? = some d) :
    w.cell? ⟨g, k * 2, none⟩ = some (.int .i64 d.1) ∧ w.cell? ⟨g, k * 2 + 1, none⟩ = some (.int .i64 d.2) ∧ w.frozen? ⟨g, k * 2, none⟩ = false ∧ w.frozen? ⟨g, k * 2 + 1, none⟩ = false := by
  have hl : k < L.length := (List.getElem?_eq_some_iff.1 hk).1
  have hc := flat_due_at hk
  exact ⟨by rw [h.row.cellAt _ (by omega)]; exact hc.1, by rw [h.row.cellAt _ (by omega)]; exact hc.2, h.row.frozenAt _, h.row.frozenAt _⟩
theorem AlmRaw.heads {w : World} {pa mb : Nat} {v : Value} {L : List (Int × Int)} {m : List (Int × Nat)} {last : Int} {S : Nat → Prop} (h : AlmRaw w pa mb v L m last S) :
    w.cell? ⟨pa, 0, none⟩ = some v ∧ w.cell? ⟨pa, 1, none⟩ = some (.map (some mb)) ∧ w.cell? ⟨pa, 2, none⟩ = some (.int .i64 last) ∧ w.frozen? ⟨pa, 0, none⟩ = false ∧ w.frozen? ⟨pa, 1, none⟩ = false ∧ w.frozen? ⟨pa, 2, none⟩ = false := by
  have hc := cell_of_cells h.box
  have hf := free_of_cells h.box
  exact ⟨by rw [hc]; rfl, by rw [hc]; rfl, by rw [hc]; rfl, hf 0, hf 1, hf 2⟩
theorem AlmRaw.lens {w : World} {pa mb g n cap : Nat} {L : List (Int × Int)} {m : List (Int × Nat)} {last : Int} {S : Nat → Prop} (h : AlmRaw w pa mb (.slice (some ⟨g, 0, none⟩) n cap) L m last S) : n = L.length ∧ n ≤ cap ∧ cap ≤ maxLen := by
  have hr := h.row
  rcases hr.2 with ⟨hv, _⟩ | ⟨g', cap', cur, hv, _, _, h1, h2, _⟩
  · cases hv
  · injection hv with _ e1 e2
    subst e1; subst e2
    exact ⟨rfl, h1, h2⟩
theorem AlmRaw.stored {w : World} {pa mb g cap : Nat} {L : List (Int × Int)} {m : List (Int × Nat)} {last : Int} {S : Nat → Prop} (h : AlmRaw w pa mb (.slice (some ⟨g, 0, none⟩) L.length cap) L m last S) (k : Nat) (hk : k < L.length) (x y : Int) :
    AlmRaw ((w.setCell ⟨g, k * 2, none⟩ (.int .i64 x)).setCell ⟨g, k * 2 + 1, none⟩ (.int .i64 y)) pa mb (.slice (some ⟨g, 0, none⟩) L.length cap) (L.set k (x, y)) m last S ∧
    Only S w ((w.setCell ⟨g, k * 2, none⟩ (.int .i64 x)).setCell ⟨g, k * 2 + 1, none⟩ (.int .i64 y)) := by
  have hg := h.inS.2.2 g rfl
  refine ⟨⟨?_, ?_, ?_, h.inS, h.ne, ?_⟩, ?_⟩
  · exact heap_set_ne _ _ _ (heap_set_ne _ _ _ h.box (Ne.symm hg.2.1)) (Ne.symm hg.2.1)
  · have := ((h.row.stored (k * 2) (.int .i64 x)).1.stored (k * 2 + 1) (.int .i64 y)).1
    rw [flat_due_set L k hk] at this
    rw [List.length_set]
    exact this
  · refine h.map.of_block ?_
    rw [Below.heap_setCell _ _ _ _ (Ne.symm hg.2.2), Below.heap_setCell _ _ _ _ (Ne.symm hg.2.2)]
  · intro k hk; simpa using h.low k hk
  · exact ((Only.refl S w).setCell (.inl hg.1) _).setCell (.inl hg.1) _
theorem right_any (at_ : Int) (w : World) :
    Calls Try.prog 26 #[.int .i64 at_] w fun e w' => e = .returned (.bool (decide (0 ≤ at_) && decide (at_ ≤ 1099511627776))) ∧ w = w' := by
  by_cases h : 0 ≤ at_
  all_goals
    go_enter Try.func26, Try.ntmps26
    go_wp2
    go_ret
    exact ⟨by first | (simp [h]; done) | (simp; omega), rfl⟩
theorem lay_any (pa mb g cap k : Nat) (x y : Int) (L : List (Int × Int)) (m : List (Int × Nat)) (last : Int) (S : Nat → Prop) (w : World)
    (h : AlmRaw w pa mb (.slice (some ⟨g, 0, none⟩) L.length cap) L m last S) (hk : k < L.length) (hy : iok y) (k' : Int) (hk' : k' = k) (n : Nat) (hn : n = L.length) :
    Calls Try.prog 27 #[.pointer (some ⟨pa, 0, none⟩), .int .i64 k', .agg #[.int .i64 x, .int .i64 y]] w fun e w' => e = .returned (.tuple #[]) ∧
      AlmRaw w' pa mb (.slice (some ⟨g, 0, none⟩) L.length cap) (L.set k (x, y)) (mput m y k) last S ∧ Only S w w' := by
  subst hk'
  have hm := h.lens.2
  unfold maxLen at hm
  have hd : L[k]? = some L[k] := List.getElem?_eq_getElem hk
  obtain ⟨a0, a1, a2, a3, a4, a5⟩ := h.heads
  obtain ⟨c0, c1, c2, c3⟩ := h.cells hd
  have lpa := lt_of_heap h.box
  have lg := h.low g (h.inS.2.2 g rfl).1
  have lmb := h.map.lt
  have h1 := (h.stored k hk x y).1.alloc (.cells #[.int .i64 x, .int .i64 y] 33)
  have ho := (h.stored k hk x y).2.alloc (.cells #[.int .i64 x, .int .i64 y] 33)
  have hb := MapKept.heap_alloc ((w.setCell ⟨g, k * 2, none⟩ (.int .i64 x)).setCell ⟨g, k * 2 + 1, none⟩ (.int .i64 y)) (.cells #[.int .i64 x, .int .i64 y] 33)
  have hs : ((w.setCell ⟨g, k * 2, none⟩ (.int .i64 x)).setCell ⟨g, k * 2 + 1, none⟩ (.int .i64 y)).heap.size = w.heap.size := by simp
  rw [hs] at hb
  have hb1 := hb.1
  have H1 := Lib.hid h1
  have HO := Lib.hid ho
  have HB := Lib.hid hb1
  clear h1 hd ho hs hb hb1 hn
  go_enter Try.func27, Try.ntmps27
  go_wp2
  go_region
  go_wp2
  refine gen_world (fun W => Hid (AlmRaw W pa mb (.slice (some ⟨g, 0, none⟩) L.length cap) (L.set k (x, y)) m last S) ∧ Hid (Only S w W) ∧ Hid (W.heap[w.heap.size]? = some (.cells #[.int .i64 x, .int .i64 y] 33))) ⟨Lib.hid H1.out.drew, Lib.hid HO.out.drew, HB⟩ ?_
  clear H1 HO HB a0 a1 a2 a3 a4 a5 c0 c1 c2 c3
  intro W ⟨H1, HO, HB⟩
  obtain ⟨w2, hrun, hmap, honly⟩ := H1.out.drew.map.update (int_like Try.underlying3) Try.underlying60 y hy k
  obtain ⟨a0, a1, a2, a3, a4, a5⟩ := H1.out.heads
  have b1 : W.cell? ⟨w.heap.size, 1, none⟩ = some (.int .i64 y) := by rw [cell_of_cells HB.out]; rfl
  have HM := Lib.hid hmap
  have HP := Lib.hid honly
  clear hmap honly
  unfold ik nk at hrun
  go_region
  go_end0
  have h1 := H1.out
  refine ⟨rfl, ⟨?_, ?_, HM.out, h1.inS, h1.ne, ?_⟩, ?_⟩
  · exact HP.out.obj (w := W.drew) h1.box h1.ne
  · have := HP.out.own (w := W.drew) h1.row fun g hg => (h1.inS.2.2 g hg).2.2
    exact this
  · intro k hk; exact Nat.lt_of_lt_of_le (h1.low k hk) HP.out.size
  · exact HO.out.drew.trans HP.out fun i _ e => by rw [e]; exact h1.inS.2.1
end Go.Proofs.Ytcnifhkgibopbaa
set_option linter.unusedVariables false
set_option linter.unusedSimpArgs false
namespace Go.Proofs.Ytcnifhkgibopbaa
section
variable {κ α : Type} [DecidableEq κ]
theorem mget_mput (m : List (κ × α)) (x y : κ) (v : α) : mget (mput m x v) y = if y = x then some v else mget m y := by
  unfold mput
  split
  · rename_i h
    unfold mget
    induction m with
    | nil => simp at h
    | cons p r ih =>
      simp only [List.map_cons, List.find?_cons]
      by_cases hp : p.1 = x
      · rw [if_pos hp]
        by_cases hy : y = x
        · subst hy; simp
        · have h1 : (x == y) = false := by simpa using fun e => hy e.symm
          have h2 : (p.1 == y) = false := by rw [hp]; exact h1
          simp only [h1, h2, if_neg hy]
          by_cases hr : r.any fun p => p.1 == x
          · have := ih hr; rw [if_neg hy] at this; exact this
          · have : r.map (fun p => if p.1 = x then (x, v) else p) = r := by
              conv => rhs; rw [← List.map_id r]
              apply List.map_congr_left
              intro q hq
              rw [if_neg]
              · rfl
              · intro e
                exact hr (List.any_eq_true.2 ⟨q, hq, by simpa using e⟩)
            rw [this]
      · rw [if_neg hp]
        have hx : (p.1 == x) = false := by simpa using hp
        simp only [List.any_cons, hx, Bool.false_or] at h
        by_cases hy : p.1 = y
        · have : y ≠ x := fun e => hp (hy.trans e)
          simp [hy, this]
        · have h1 : (p.1 == y) = false := by simpa using hy
          simp only [h1]
          exact ih h
  · rename_i h
    simp only [List.any_eq_true, not_exists, not_and, Bool.not_eq_true] at h
    unfold mget
    rw [List.find?_append]
    by_cases hy : y = x
    · subst hy
      rw [List.find?_eq_none.2 (fun p hp => by simpa using h p hp)]
      simp
    · have h1 : (x == y) = false := by simpa using fun e => hy e.symm
      simp [hy, h1]
theorem mget_mdel (m : List (κ × α)) (x y : κ) : mget (mdel m x) y = if y = x then none else mget m y := by
  unfold mdel mget
  induction m with
  | nil => simp
  | cons p r ih =>
    by_cases hp : p.1 = x
    · have h1 : (p.1 == x) = true := by simpa using hp
      simp only [List.filter_cons, h1, Bool.not_true, Bool.false_eq_true, if_false]
      rw [ih]
      by_cases hy : y = x
      · simp [hy]
      · have h2 : (p.1 == y) = false := by rw [hp]; simpa using fun e => hy e.symm
        simp [hy, h2]
    · have h1 : (p.1 == x) = false := by simpa using hp
      simp only [List.filter_cons, h1, Bool.not_false, if_true, List.find?_cons]
      by_cases hy : p.1 = y
      · have : y ≠ x := fun e => hp (hy.trans e)
        simp [hy, this]
      · have h2 : (p.1 == y) = false := by simpa using hy
        simp only [h2]
        exact ih
theorem mput_length_some {m : List (κ × α)} {x : κ} {v v0 : α} (h : mget m x = some v0) : (mput m x v).length = m.length := by
  unfold mput
  rw [if_pos]
  · simp
  · unfold mget at h
    rw [List.any_eq_true]
    cases hf : m.find? (fun p => p.1 == x) with
    | none => rw [hf] at h; cases h
    | some p => exact ⟨p, List.mem_of_find?_eq_some hf, List.find?_some (p := fun p : κ × α => p.1 == x) hf⟩
theorem mput_length_none {m : List (κ × α)} {x : κ} {v : α} (h : mget m x = none) : (mput m x v).length = m.length + 1 := by
  unfold mput
  rw [if_neg]
  · simp
  · unfold mget at h
    rw [Option.map_eq_none_iff, List.find?_eq_none] at h
    simp only [List.any_eq_true, not_exists, not_and]
    intro p hp
    exact h p hp
theorem mem_of_mget {m : List (κ × α)} {x : κ} {v : α} (h : mget m x = some v) : (x, v) ∈ m := by
  unfold mget at h
  cases hf : m.find? (fun p => p.1 == x) with
  | none => rw [hf] at h; cases h
  | some p =>
    rw [hf] at h
    simp at h
    have h1 : p.1 = x := by have := List.find?_some (p := fun p : κ × α => p.1 == x) hf; simpa using this
    have : p = (x, v) := by rw [← h1, ← h]
    exact this ▸ List.mem_of_find?_eq_some hf
theorem mdel_length_some {m : List (κ × α)} {x : κ} {v0 : α} (hn : (m.map (·.1)).Nodup) (h : mget m x = some v0) : (mdel m x).length + 1 = m.length := by
  obtain ⟨j, hj⟩ := List.mem_iff_getElem?.1 (mem_of_mget h)
  rw [mdel_some hn hj]
  have : j < m.length := (List.getElem?_eq_some_iff.1 hj).1
  rw [List.length_eraseIdx_of_lt this]
  omega
end
abbrev D2 := Int × Int
structure Idx (L : List D2) (m : List (Int × Nat)) : Prop where
  get : ∀ id i, mget m id = some i ↔ ∃ d, L[i]? = some d ∧ d.2 = id
  len : m.length = L.length
  ok : ∀ d ∈ L, iok d.2
  small : L.length ≤ 4096
def swapL (L : List D2) (i k : Nat) : List D2 := (L.set i (L.getD k (0, 0))).set k (L.getD i (0, 0))
theorem swapL_length (L : List D2) (i k : Nat) : (swapL L i k).length = L.length := by simp [swapL]
theorem getD_lt {L : List D2} {k : Nat} (h : k < L.length) : L.getD k (0, 0) = L[k] := by simp [h]
theorem swapL_eq {L : List D2} {i k : Nat} (hi : i < L.length) (hk : k < L.length) : swapL L i k = (L.set i L[k]).set k L[i] := by
  unfold swapL; rw [getD_lt hi, getD_lt hk]
theorem swapL_at {L : List D2} {i k : Nat} (hi : i < L.length) (hk : k < L.length) (j : Nat) : (swapL L i k)[j]? = if j = k then some L[i] else if j = i then some L[k] else L[j]? := by
  rw [swapL_eq hi hk, List.getElem?_set, List.getElem?_set]
  simp only [List.length_set]
  by_cases h1 : k = j
  · rw [if_pos h1, if_pos h1.symm, if_pos hk]
  · have h1' : ¬ j = k := fun e => h1 e.symm
    rw [if_neg h1, if_neg h1']
    by_cases h2 : i = j
    · rw [if_pos h2, if_pos h2.symm, if_pos hi]
    · have h2' : ¬ j = i := fun e => h2 e.symm
      rw [if_neg h2, if_neg h2']
theorem Idx.uniq {L : List D2} {m : List (Int × Nat)} (h : Idx L m) {i j : Nat} {d d' : D2} (hi : L[i]? = some d) (hj : L[j]? = some d') (he : d.2 = d'.2) : i = j := by
  have h1 := (h.get d.2 i).2 ⟨d, hi, rfl⟩
  have h2 := (h.get d.2 j).2 ⟨d', hj, he.symm⟩
  rw [h1] at h2
  injection h2
theorem Idx.swap {L : List D2} {m : List (Int × Nat)} (h : Idx L m) {i k : Nat} (hi : i < L.length) (hk : k < L.length) : Idx (swapL L i k) (mput (mput m L[k].2 i) L[i].2 k) := by
  have gi : mget m L[i].2 = some i := (h.get _ _).2 ⟨_, List.getElem?_eq_getElem hi, rfl⟩
  have gk : mget m L[k].2 = some k := (h.get _ _).2 ⟨_, List.getElem?_eq_getElem hk, rfl⟩
  refine ⟨fun id j => ?_, ?_, fun d hd => ?_, by rw [swapL_length]; exact h.small⟩
  · rw [mget_mput, mget_mput, swapL_at hi hk]
    by_cases h1 : id = L[i].2
    · rw [if_pos h1]
      constructor
      · intro e
        injection e with e
        subst e
        exact ⟨L[i], by simp, h1.symm⟩
      · rintro ⟨d, hd, hde⟩
        by_cases h2 : j = k
        · rw [h2]
        · rw [if_neg h2] at hd
          by_cases h3 : j = i
          · rw [if_pos h3] at hd
            injection hd with hd
            have := h.uniq (List.getElem?_eq_getElem hk) (List.getElem?_eq_getElem hi) (by rw [hd, hde, h1])
            exact absurd (h3.trans this.symm) h2
          · rw [if_neg h3] at hd
            exact absurd (h.uniq hd (List.getElem?_eq_getElem hi) (by rw [hde, h1])) h3
    · rw [if_neg h1]
      by_cases h2 : id = L[k].2
      · rw [if_pos h2]
        constructor
        · intro e
          injection e with e
          subst e
          refine ⟨L[k], ?_, h2.symm⟩
          by_cases h3 : i = k
          · subst h3; simp
          · rw [if_neg h3, if_pos rfl]
        · rintro ⟨d, hd, hde⟩
          by_cases h3 : j = k
          · rw [if_pos h3] at hd
            injection hd with hd
            exact absurd (by rw [← hde, ← hd]) h1
          · rw [if_neg h3] at hd
            by_cases h4 : j = i
            · rw [h4]
            · rw [if_neg h4] at hd
              exact absurd (h.uniq hd (List.getElem?_eq_getElem hk) (by rw [hde, h2])) h3
      · rw [if_neg h2, h.get]
        constructor
        · rintro ⟨d, hd, hde⟩
          refine ⟨d, ?_, hde⟩
          rw [if_neg, if_neg]
          · exact hd
          · intro e; subst e
            rw [List.getElem?_eq_getElem hi] at hd
            injection hd with hd
            exact h1 (by rw [← hde, hd])
          · intro e; subst e
            rw [List.getElem?_eq_getElem hk] at hd
            injection hd with hd
            exact h2 (by rw [← hde, hd])
        · rintro ⟨d, hd, hde⟩
          by_cases h3 : j = k
          · rw [if_pos h3] at hd; injection hd with hd; exact absurd (by rw [← hde, hd]) h1
          · rw [if_neg h3] at hd
            by_cases h4 : j = i
            · rw [if_pos h4] at hd; injection hd with hd; exact absurd (by rw [← hde, hd]) h2
            · rw [if_neg h4] at hd; exact ⟨d, hd, hde⟩
  · have e1 : (mput m L[k].2 i).length = m.length := mput_length_some gk
    have e2 : ∃ v0, mget (mput m L[k].2 i) L[i].2 = some v0 := by
      rw [mget_mput]
      split
      · exact ⟨_, rfl⟩
      · exact ⟨_, gi⟩
    obtain ⟨v0, e2⟩ := e2
    rw [mput_length_some e2, e1, h.len, swapL_length]
  · rw [swapL_eq hi hk] at hd
    rcases List.mem_or_eq_of_mem_set hd with hd | rfl
    · rcases List.mem_or_eq_of_mem_set hd with hd | rfl
      · exact h.ok d hd
      · exact h.ok _ (List.getElem_mem hk)
    · exact h.ok _ (List.getElem_mem hi)
def aheadB (a b : D2) : Bool := decide (a.1 < b.1) || (a.1 == b.1 && decide (a.2 < b.2))
def riseL : Nat → List D2 → Nat → List D2
  | 0, L, _ => L
  | f + 1, L, k => if decide (0 < k) && aheadB (L.getD k (0, 0)) (L.getD ((k - 1) / 2) (0, 0)) then riseL f (swapL L k ((k - 1) / 2)) ((k - 1) / 2) else L
def bestS (L : List D2) (b kid : Nat) : Nat := if kid < L.length && aheadB (L.getD kid (0, 0)) (L.getD b (0, 0)) then kid else b
def bestL (L : List D2) (k : Nat) : Nat := bestS L (bestS L k (2 * k + 1)) (2 * k + 2)
theorem bestS_or (L : List D2) (b kid : Nat) : bestS L b kid = b ∨ bestS L b kid = kid ∧ kid < L.length := by
  unfold bestS
  split
  · rename_i h; simp only [Bool.and_eq_true, decide_eq_true_eq] at h; exact .inr ⟨rfl, h.1⟩
  · exact .inl rfl
theorem bestS_ge {L : List D2} {b kid : Nat} (h : L.length ≤ kid) : bestS L b kid = b := by
  unfold bestS
  rw [if_neg]
  simp only [Bool.and_eq_true, decide_eq_true_eq]
  omega
theorem bestS_yes {L : List D2} {b kid : Nat} (hk : kid < L.length) (hb : b < L.length) (h : aheadB L[kid] L[b] = true) : bestS L b kid = kid := by
  unfold bestS
  rw [getD_lt hk, getD_lt hb, h, if_pos (by simpa using hk)]
theorem bestS_no {L : List D2} {b kid : Nat} (hk : kid < L.length) (hb : b < L.length) (h : aheadB L[kid] L[b] = false) : bestS L b kid = b := by
  unfold bestS
  rw [getD_lt hk, getD_lt hb, h, if_neg (by simp)]
theorem bestL_lt {L : List D2} {k : Nat} (hk : k < L.length) : bestL L k < L.length := by
  unfold bestL
  rcases bestS_or L k (2 * k + 1) with h1 | h1 <;> rcases bestS_or L (bestS L k (2 * k + 1)) (2 * k + 2) with h2 | h2 <;> omega
theorem bestL_gt {L : List D2} {k : Nat} (h : bestL L k ≠ k) : k < bestL L k := by
  unfold bestL at *
  rcases bestS_or L k (2 * k + 1) with h1 | h1 <;> rcases bestS_or L (bestS L k (2 * k + 1)) (2 * k + 2) with h2 | h2 <;> omega
def sinkL : Nat → List D2 → Nat → List D2
  | 0, L, _ => L
  | f + 1, L, k => if bestL L k = k then L else sinkL f (swapL L k (bestL L k)) (bestL L k)
theorem riseL_more {f f' : Nat} : ∀ {L : List D2} {k : Nat}, k ≤ f → k ≤ f' → riseL f L k = riseL f' L k := by
  induction f generalizing f' with
  | zero =>
    intro L k h h'
    obtain rfl : k = 0 := by omega
    cases f' with
    | zero => rfl
    | succ f' => unfold riseL; simp
  | succ f ih =>
    intro L k h h'
    cases f' with
    | zero =>
      obtain rfl : k = 0 := by omega
      unfold riseL; simp
    | succ f' =>
      unfold riseL
      split
      · rename_i hc
        have : 0 < k := by simp only [Bool.and_eq_true, decide_eq_true_eq] at hc; exact hc.1
        exact ih (by omega) (by omega)
      · rfl
theorem sinkL_more {f f' : Nat} : ∀ {L : List D2} {k : Nat}, k < L.length → L.length ≤ k + f → L.length ≤ k + f' → sinkL f L k = sinkL f' L k := by
  induction f generalizing f' with
  | zero => intro L k h h1 h2; omega
  | succ f ih =>
    intro L k h h1 h2
    cases f' with
    | zero => omega
    | succ f' =>
      unfold sinkL
      split
      · rfl
      · rename_i hc
        have := bestL_gt hc
        have := bestL_lt h
        exact ih (by rw [swapL_length]; exact bestL_lt h) (by rw [swapL_length]; omega) (by rw [swapL_length]; omega)
theorem riseL_length (f : Nat) : ∀ (L : List D2) (k : Nat), (riseL f L k).length = L.length := by
  induction f with
  | zero => intro L k; rfl
  | succ f ih =>
    intro L k
    unfold riseL
    split
    · rw [ih, swapL_length]
    · rfl
theorem sinkL_length (f : Nat) : ∀ (L : List D2) (k : Nat), (sinkL f L k).length = L.length := by
  induction f with
  | zero => intro L k; rfl
  | succ f ih =>
    intro L k
    unfold sinkL
    split
    · rfl
    · rw [ih, swapL_length]
def setL (L : List D2) (at_ id : Int) : List D2 := riseL L.length (L ++ [(at_, id)]) L.length
def dropL (L : List D2) (k : Nat) : List D2 :=
  let L2 := (swapL L k (L.length - 1)).take (L.length - 1)
  if k < L.length - 1 then sinkL L2.length (riseL k L2 k) k else L2
theorem Idx.push {L : List D2} {m : List (Int × Nat)} (h : Idx L m) (d : D2) (hn : ∀ x ∈ L, x.2 ≠ d.2) (hk : iok d.2) (hl : L.length < 4096) : Idx (L ++ [d]) (mput m d.2 L.length) := by
  have hnone : mget m d.2 = none := by
    cases hg : mget m d.2 with
    | none => rfl
    | some i =>
      obtain ⟨x, hx, he⟩ := (h.get _ _).1 hg
      exact absurd he (hn x (List.mem_of_getElem? hx))
  refine ⟨fun id i => ?_, by rw [mput_length_none hnone, h.len]; simp, fun x hx => ?_, by simp; omega⟩
  · rw [mget_mput]
    by_cases hid : id = d.2
    · rw [if_pos hid]
      constructor
      · intro e
        injection e with e
        subst e
        exact ⟨d, by simp, hid.symm⟩
      · rintro ⟨x, hx, he⟩
        rw [List.getElem?_append] at hx
        split at hx
        · exact absurd (he.trans hid) (hn x (List.mem_of_getElem? hx))
        · rename_i hlt
          have : i - L.length = 0 := by
            rcases Nat.eq_zero_or_pos (i - L.length) with h0 | h0
            · exact h0
            · rw [List.getElem?_eq_none (by simp; omega)] at hx; cases hx
          rw [show L.length = i by omega]
    · rw [if_neg hid, h.get]
      constructor
      · rintro ⟨x, hx, he⟩
        exact ⟨x, by rw [List.getElem?_append_left (List.getElem?_eq_some_iff.1 hx).1]; exact hx, he⟩
      · rintro ⟨x, hx, he⟩
        rw [List.getElem?_append] at hx
        split at hx
        · exact ⟨x, hx, he⟩
        · have : x = d := by have := List.mem_of_getElem? hx; simpa using this
          exact absurd (by rw [← he, this]) hid
  · rcases List.mem_append.1 hx with hx | hx
    · exact h.ok x hx
    · simp at hx; rw [hx]; exact hk
theorem Idx.pop {L : List D2} {m : List (Int × Nat)} (hm : (m.map (·.1)).Nodup) (h : Idx L m) (hp : 0 < L.length) : Idx (L.take (L.length - 1)) (mdel m L[L.length - 1].2) := by
  have hlast : L[L.length - 1]? = some L[L.length - 1] := List.getElem?_eq_getElem (by omega)
  have hg : mget m L[L.length - 1].2 = some (L.length - 1) := (h.get _ _).2 ⟨_, hlast, rfl⟩
  refine ⟨fun id i => ?_, by have := mdel_length_some hm hg; rw [List.length_take, Nat.min_eq_left (by omega)]; have := h.len; omega, fun x hx => h.ok x (List.mem_of_mem_take hx), by have := h.small; simp; omega⟩
  rw [mget_mdel]
  by_cases hid : id = L[L.length - 1].2
  · rw [if_pos hid]
    constructor
    · intro e; cases e
    · rintro ⟨x, hx, he⟩
      rw [List.getElem?_take] at hx
      split at hx
      · rename_i hlt
        have := h.uniq hx hlast (by rw [he, hid])
        omega
      · cases hx
  · rw [if_neg hid, h.get]
    constructor
    · rintro ⟨x, hx, he⟩
      have hi := (List.getElem?_eq_some_iff.1 hx).1
      have : i ≠ L.length - 1 := by
        intro e
        subst e
        rw [hlast] at hx
        injection hx with hx
        exact hid (by rw [← he, ← hx])
      exact ⟨x, by rw [List.getElem?_take, if_pos (by omega)]; exact hx, he⟩
    · rintro ⟨x, hx, he⟩
      rw [List.getElem?_take] at hx
      split at hx
      · exact ⟨x, hx, he⟩
      · cases hx
end Go.Proofs.Ytcnifhkgibopbaa
set_option linter.unusedVariables false
set_option linter.unusedSimpArgs false
namespace Go.Proofs.Ytcnifhkgibopbaa
open Go.RowKit Go.MapKept Go.ChangeMaps
set_option maxHeartbeats 400000 in
theorem swap_any (pa mb g cap i k : Nat) (L : List (Int × Int)) (m : List (Int × Nat)) (last : Int) (S : Nat → Prop) (w : World)
    (h : AlmRaw w pa mb (.slice (some ⟨g, 0, none⟩) L.length cap) L m last S) (hi : i < L.length) (hk : k < L.length) (hok : ∀ d ∈ L, iok d.2) (i' k' : Int) (hi' : i' = i) (hk' : k' = k) :
    Calls Try.prog 42 #[.pointer (some ⟨pa, 0, none⟩), .int .i64 i', .int .i64 k'] w fun e w' => e = .returned (.tuple #[]) ∧
      AlmRaw w' pa mb (.slice (some ⟨g, 0, none⟩) L.length cap) ((L.set i L[k]).set k L[i]) (mput (mput m L[k].2 i) L[i].2 k) last S ∧ Only S w w' := by
  subst hi'
  subst hk'
  have hm := h.lens.2
  unfold maxLen at hm
  obtain ⟨a0, a1, a2, a3, a4, a5⟩ := h.heads
  obtain ⟨c0, c1, c2, c3⟩ := h.cells (List.getElem?_eq_getElem hi)
  obtain ⟨d0, d1, d2, d3⟩ := h.cells (List.getElem?_eq_getElem hk)
  have lpa := lt_of_heap h.box
  have lg := h.low g (h.inS.2.2 g rfl).1
  have HH := Lib.hid h
  have hoi : iok L[i].2 := hok _ (List.getElem_mem hi)
  have hok' : iok L[k].2 := hok _ (List.getElem_mem hk)
  clear h hok
  obtain ⟨n, hn⟩ : ∃ n, n = L.length := ⟨_, rfl⟩
  go_enter Try.func42, Try.ntmps42
  go_wp2
  go_region
  all_goals
    go_wp2_with fail
    refine (lay_any pa mb g cap i _ _ L m last S _ (((HH.out.alloc _).alloc _).drew) hi hok' _ rfl n hn).mono ?_
    rintro e w1 ⟨rfl, h1, ho1⟩
    have b0 := ho1.obj (b := w.heap.size) (heap_two w _ _).1 fun hS => by have := HH.out.low _ hS; omega
    have b1 := ho1.obj (b := w.heap.size + 1) (heap_two w _ _).2 fun hS => by have := HH.out.low _ hS; omega
    have e00 := cell_of_cells b0 0
    have e01 := cell_of_cells b0 1
    have e10 := cell_of_cells b1 0
    have e11 := cell_of_cells b1 1
    simp only [List.getElem?_toArray, List.getElem?_cons_zero, List.getElem?_cons_succ] at e00 e01 e10 e11
    have ho : Only S w w1 := (((Only.refl S w).alloc _).alloc _).drew.then_ ho1
    have H1 := Lib.hid h1
    have HO := Lib.hid ho
    clear h1 ho1 ho b0 b1
    go_wp2_with fail
    refine (lay_any pa mb g cap k _ _ (L.set i L[k]) _ last S _ (by rw [List.length_set]; exact H1.out) (by rw [List.length_set]; exact hk) hoi _ rfl n (by rw [List.length_set]; exact hn)).mono ?_
    rintro e w2 ⟨rfl, h2, ho2⟩
    rw [List.length_set] at h2
    go_wp2
    go_end0
    exact ⟨rfl, h2, HO.out.then_ ho2⟩
theorem ahead_any (a b : Int × Int) (w : World) :
    Calls Try.prog 39 #[.agg #[.int .i64 a.1, .int .i64 a.2], .agg #[.int .i64 b.1, .int .i64 b.2]] w fun e w' => e = .returned (.bool (aheadB a b)) ∧ Below w.heap.size w w' := by
  obtain ⟨a1, a2⟩ := a
  obtain ⟨b1, b2⟩ := b
  have hb : Below w.heap.size w ((w.alloc (.cells #[.int .i64 a1, .int .i64 a2] 33)).alloc (.cells #[.int .i64 b1, .int .i64 b2] 33)) := ((Below.refl _ w).alloc (Nat.le_refl _) _).alloc (by simp) _
  have HB := Lib.hid hb
  clear hb
  by_cases h : a1 < b1
  · have H := Lib.hid h
    go_enter Try.func39, Try.ntmps39
    go_wp2
    go_ret
    exact ⟨by simp [aheadB, H.out], HB.out⟩
  · by_cases h1 : a1 = b1
    · have hq : ((a1 : Int) == b1) = true := by simpa using h1
      have H := Lib.hid h
      have H1 := Lib.hid h1
      clear h1
      go_enter Try.func39, Try.ntmps39
      go_wp2
      go_ret
      exact ⟨by simp [aheadB, H.out, H1.out], HB.out⟩
    · have hq : ((a1 : Int) == b1) = false := by simpa using h1
      have H := Lib.hid h
      have H1 := Lib.hid h1
      clear h1
      go_enter Try.func39, Try.ntmps39
      go_wp2
      go_ret
      exact ⟨by simp [aheadB, H.out, H1.out], HB.out⟩
end Go.Proofs.Ytcnifhkgibopbaa
set_option linter.unusedVariables false
set_option linter.unusedSimpArgs false
namespace Go.Proofs.Ytcnifhkgibopbaa
open Go.RowKit Go.MapKept Go.ChangeMaps
def Alm (w : World) (pa : Nat) (L : List D2) (last : Int) (S : Nat → Prop) : Prop := ∃ mb v m, AlmRaw w pa mb v L m last S ∧ Idx L m
theorem AlmRaw.form {w : World} {pa mb : Nat} {v : Value} {L : List (Int × Int)} {m : List (Int × Nat)} {last : Int} {S : Nat → Prop} (h : AlmRaw w pa mb v L m last S) {k : Nat} (hk : k < L.length) : ∃ g cap, v = .slice (some ⟨g, 0, none⟩) L.length cap := by
  rcases h.row.2 with ⟨_, h0⟩ | ⟨g, cap, cur, rfl, _⟩
  · omega
  · exact ⟨g, cap, rfl⟩
theorem Alm.swap {pa : Nat} {L : List D2} {last : Int} {S : Nat → Prop} {w : World} (h : Alm w pa L last S) {i k : Nat} (hi : i < L.length) (hk : k < L.length) (i' k' : Int) (hi' : i' = i) (hk' : k' = k) :
    Calls Try.prog 42 #[.pointer (some ⟨pa, 0, none⟩), .int .i64 i', .int .i64 k'] w fun e w' => e = .returned (.tuple #[]) ∧ Alm w' pa (swapL L i k) last S ∧ Only S w w' := by
  obtain ⟨mb, v, m, hr, hx⟩ := h
  obtain ⟨g, cap, rfl⟩ := hr.form hi
  rw [swapL_eq hi hk]
  refine (swap_any pa mb g cap i k L m last S w hr hi hk hx.ok i' k' hi' hk').mono fun e w' ⟨he, h1, ho⟩ => ⟨he, ⟨mb, .slice (some ⟨g, 0, none⟩) L.length cap, mput (mput m L[k].2 i) L[i].2 k, h1, ?_⟩, ho⟩
  rw [← swapL_eq hi hk]
  exact hx.swap hi hk
theorem ahead_is (a b : Int × Int) (v : Bool) (hv : aheadB a b = v) (w : World) :
    Calls Try.prog 39 #[.agg #[.int .i64 a.1, .int .i64 a.2], .agg #[.int .i64 b.1, .int .i64 b.2]] w fun e w' => e = .returned (.bool v) ∧ Below w.heap.size w w' := by
  subst hv
  exact ahead_any a b w
theorem Alm.other {w w' : World} {pa : Nat} {L : List D2} {last : Int} {S S' : Nat → Prop} (h : Alm w pa L last S) (ho : Only S' w w') (hd : ∀ k, S k → ¬ S' k) : Alm w' pa L last S := by
  obtain ⟨mb, v, m, hr, hx⟩ := h
  exact ⟨mb, v, m, hr.other ho hd, hx⟩
theorem Alm.below {w w' : World} {pa : Nat} {L : List D2} {last : Int} {S : Nat → Prop} (h : Alm w pa L last S) (hb : Below w.heap.size w w') : Alm w' pa L last S :=
  h.other (S' := fun _ => False) (Only.of_below hb) fun _ _ x => x
theorem below_of_drew {w w' : World} (hb : Below w.drew.heap.size w.drew w') : Below w.heap.size w w' := ⟨hb.os, hb.tape, hb.output, hb.size, hb.block⟩
theorem Alm.len_le {w : World} {pa : Nat} {L : List D2} {last : Int} {S : Nat → Prop} (h : Alm w pa L last S) : L.length ≤ 9223372036854775807 := by
  obtain ⟨mb, v, m, hr, hx⟩ := h
  rcases hr.row.2 with ⟨_, h0⟩ | ⟨g, cap, cur, rfl, _, _, h1, h2, _⟩
  · omega
  · unfold maxLen at h2; omega
def RiseJ (pa : Nat) (last : Int) (S : Nat → Prop) (w : World) (R : List D2) (a' : Act) (w' : World) : Prop :=
  ∃ (L' : List D2) (j : Nat) (u2 u3 u4 u5 u6 u7 u8 u9 u10 u11 u12 u13 u14 u15 u16 u17 u18 u19 u20 u21 u22 u23 u24 u25 u26 u27 u28 u29 u30 u31 : Value), a' = { tmps := #[.pointer (some ⟨pa, 0, none⟩), .int .i64 j, u2, u3, u4, u5, u6, u7, u8, u9, u10, u11, u12, u13, u14, u15, u16, u17, u18, u19, u20, u21, u22, u23, u24, u25, u26, u27, u28, u29, u30, u31], defers := [] } ∧ j < L'.length ∧ Alm w' pa L' last S ∧ Only S w w' ∧ riseL j L' j = R
set_option maxRecDepth 100000 in
set_option maxHeartbeats 400000 in
theorem rise_any (pa k : Nat) (L : List D2) (last : Int) (S : Nat → Prop) (w : World) (h : Alm w pa L last S) (hk : k < L.length) (k' : Int) (hk' : k' = k) :
    Calls Try.prog 28 #[.pointer (some ⟨pa, 0, none⟩), .int .i64 k'] w fun e w' => e = .returned (.tuple #[]) ∧ Alm w' pa (riseL k L k) last S ∧ Only S w w' := by
  subst hk'
  have HH := Lib.hid h
  have HK := Lib.hid hk
  clear h hk
  go_enter Try.func28, Try.ntmps28
  go_wp2_with fail
  refine wp_scope_back 0 (RiseJ pa last S w (riseL k L k)) (fun a' _ => (intOf (a'.tmps.getD 1 undef)).toNat) ?_ ?_
  · exact ⟨L, k, _, _, _, _, _, _, _, _, _, _, _, _, _, _, _, _, _, _, _, _, _, _, _, _, _, _, _, _, _, _, rfl, HK.out, HH.out, Only.refl _ _, rfl⟩
  · rintro a' w' ⟨L', j, u2, u3, u4, u5, u6, u7, u8, u9, u10, u11, u12, u13, u14, u15, u16, u17, u18, u19, u20, u21, u22, u23, u24, u25, u26, u27, u28, u29, u30, u31, rfl, hj, hA, hO, hR⟩
    have hle := hA.len_le
    have HO := Lib.hid hO
    have HR := Lib.hid hR
    have HA' := Lib.hid hA
    obtain ⟨mb, v, m, hr, hx⟩ := hA
    obtain ⟨g, cap, rfl⟩ := hr.form hj
    have hc := hr.lens.2.1
    obtain ⟨a0, _, _, _, _, _⟩ := hr.heads
    by_cases h0 : 0 < j
    · obtain ⟨i, hi0⟩ : ∃ i, j = i + 1 := ⟨j - 1, by omega⟩
      obtain ⟨p, hp⟩ : ∃ p, p = i / 2 := ⟨_, rfl⟩
      have hi : p < L'.length := by omega
      obtain ⟨c0, c1, _, _⟩ := hr.cells (List.getElem?_eq_getElem hj)
      obtain ⟨d0, d1, _, _⟩ := hr.cells (List.getElem?_eq_getElem hi)
      clear hO hR hr hx
      have g0 : (0 : Int) ≤ (j : Int) := by omega
      have g1 : (j : Int) < (L'.length : Int) := by omega
      have e3 : (j : Int) - 1 = (i : Int) := by omega
      have g2 : (0 : Int) ≤ (p : Int) := by omega
      have g3 : (p : Int) < (L'.length : Int) := by omega
      have e4 : (i : Int) / 2 = (p : Int) := by omega
      have HP := Lib.hid (And.intro hi0 hp)
      clear hp hi0
      cases hA : aheadB L'[j] L'[p]
      all_goals
        have HA := Lib.hid hA
        clear hA
        go_wp2_with fail
        go_region_held3 (fun W => W.cell? ⟨pa, 0, none⟩ = some (.slice (some ⟨g, 0, none⟩) L'.length cap) ∧ W.cell? ⟨g, j * 2, none⟩ = some (.int .i64 L'[j].fst) ∧ W.cell? ⟨g, j * 2 + 1, none⟩ = some (.int .i64 L'[j].snd) ∧
            W.cell? ⟨g, p * 2, none⟩ = some (.int .i64 L'[p].fst) ∧ W.cell? ⟨g, p * 2 + 1, none⟩ = some (.int .i64 L'[p].snd))
          (first | go_keep | exact ⟨cell_later hb1 a0, cell_later hb1 c0, cell_later hb1 c1, cell_later hb1 d0, cell_later hb1 d1⟩)
          (first | (go_at_call 39; refine (ahead_is L'[j] L'[p] _ HA.out _).mono ?_; rintro e W1 ⟨rfl, hb1⟩))
      · go_wp2_with fail
        simp only [Exit.jump]
        go_end0
        have hR := HR.out
        have h1 : riseL j L' j = L' := by
          obtain ⟨q1, q2⟩ := HP.out
          subst q1
          rw [riseL, getD_lt hj, show (i + 1 - 1) / 2 = p by omega, getD_lt hi, HA.out]
          simp
        rw [← hR, h1]
        exact ⟨rfl, HA'.out.below (below_of_drew hb1), HO.out.then_ (Only.of_below (below_of_drew hb1))⟩
      · go_wp2_with fail
        refine ((HA'.out.below (below_of_drew hb1)).swap hj hi _ _ rfl rfl).mono ?_
        rintro e w2 ⟨rfl, h2, ho2⟩
        go_wp2_with fail
        go_step3
        have hR := HR.out
        obtain ⟨q1, q2⟩ := HP.out
        have h1 : riseL p (swapL L' j p) p = riseL k L k := by
          rw [← hR]
          obtain ⟨f, hf⟩ : ∃ f, j = f + 1 := ⟨i, q1⟩
          rw [riseL_more (f := p) (f' := f) (by omega) (by omega)]
          conv => rhs; rw [hf]
          rw [riseL, ← hf, getD_lt hj, show (j - 1) / 2 = p by omega, getD_lt hi, HA.out]
          simp only [h0, decide_true, Bool.and_self, if_true]
        exact ⟨rfl, ⟨swapL L' j p, p, _, _, _, _, _, _, _, _, _, _, _, _, _, _, _, _, _, _, _, _, _, _, _, _, _, _, _, _, _, _, rfl, by rw [swapL_length]; exact hi, h2, (HO.out.then_ (Only.of_below (below_of_drew hb1))).then_ ho2, h1⟩, by simp [intOf]; omega⟩
    · go_wp2_with fail
      go_quiet (fail)
      go_wp2_with fail
      simp only [Exit.jump]
      go_end0
      have hR := HR.out
      obtain rfl : j = 0 := by omega
      rw [← hR]
      exact ⟨rfl, HA'.out.below (below_drewN (Below.refl _ _) _), HO.out.then_ (Only.of_below (below_drewN (Below.refl _ _) _))⟩
end Go.Proofs.Ytcnifhkgibopbaa
set_option linter.unusedVariables false
set_option linter.unusedSimpArgs false
namespace Go.Proofs.Ytcnifhkgibopbaa
open Go.RowKit Go.MapKept Go.ChangeMaps
def SinkJ (pa : Nat) (last : Int) (S : Nat → Prop) (w : World) (R : List D2) (a' : Act) (w' : World) : Prop :=
  ∃ (L' : List D2) (j : Nat) (u2 u3 u4 u5 u6 u7 u8 u9 u10 u11 u12 u13 u14 u15 u16 u17 u18 u19 u20 u21 u22 u23 u24 u25 u26 u27 u28 u29 u30 u31 u32 u33 u34 u35 u36 u37 u38 u39 u40 u41 u42 u43 u44 u45 u46 u47 u48 u49 : Value), a' = { tmps := #[.pointer (some ⟨pa, 0, none⟩), .int .i64 j, u2, u3, u4, u5, u6, u7, u8, u9, u10, u11, u12, u13, u14, u15, u16, u17, u18, u19, u20, u21, u22, u23, u24, u25, u26, u27, u28, u29, u30, u31, u32, u33, u34, u35, u36, u37, u38, u39, u40, u41, u42, u43, u44, u45, u46, u47, u48, u49], defers := [] } ∧ j < L'.length ∧ Alm w' pa L' last S ∧ Only S w w' ∧ sinkL L'.length L' j = R
def SinkR (L : List D2) (k : Nat) (w : World) (best kid : Value) (w' : World) : Prop :=
  ∃ (b r : Nat), best = .int .i64 b ∧ kid = .int .i64 r ∧ Below w.heap.size w w' ∧ b < L.length ∧ (r = 2 * k + 1 ∧ b = k ∨ r = 2 * k + 2 ∧ b = bestS L k (2 * k + 1) ∨ r = 2 * k + 3 ∧ b = bestL L k)
set_option maxRecDepth 100000 in
set_option maxHeartbeats 400000 in
theorem sink_any (pa k : Nat) (L : List D2) (last : Int) (S : Nat → Prop) (w : World) (h : Alm w pa L last S) (hk : k < L.length) (k' : Int) (hk' : k' = k) :
    Calls Try.prog 40 #[.pointer (some ⟨pa, 0, none⟩), .int .i64 k'] w fun e w' => e = .returned (.tuple #[]) ∧ Alm w' pa (sinkL L.length L k) last S ∧ Only S w w' := by
  subst hk'
  have HH := Lib.hid h
  have HK := Lib.hid hk
  clear h hk
  go_enter Try.func40, Try.ntmps40
  go_wp2_with fail
  refine wp_scope_back 0 (SinkJ pa last S w (sinkL L.length L k)) (fun a' _ => 4096 - (intOf (a'.tmps.getD 1 undef)).toNat) ?_ ?_
  · exact ⟨L, k, _, _, _, _, _, _, _, _, _, _, _, _, _, _, _, _, _, _, _, _, _, _, _, _, _, _, _, _, _, _, _, _, _, _, _, _, _, _, _, _, _, _, _, _, _, _, _, _, rfl, HK.out, HH.out, Only.refl _ _, rfl⟩
  · rintro a' w' ⟨L', j, u2, u3, u4, u5, u6, u7, u8, u9, u10, u11, u12, u13, u14, u15, u16, u17, u18, u19, u20, u21, u22, u23, u24, u25, u26, u27, u28, u29, u30, u31, u32, u33, u34, u35, u36, u37, u38, u39, u40, u41, u42, u43, u44, u45, u46, u47, u48, u49, rfl, hj, hA, hO, hR⟩
    have hle : L'.length ≤ 4096 := by obtain ⟨_, _, _, _, hx⟩ := hA; exact hx.small
    have HO := Lib.hid hO
    have HR := Lib.hid hR
    have HA' := Lib.hid hA
    obtain ⟨mb, v, m, hr, hx⟩ := hA
    obtain ⟨g, cap, rfl⟩ := hr.form hj
    have hc := hr.lens.2.1
    obtain ⟨a0, _, _, _, _, _⟩ := hr.heads
    have HC := Lib.hid (fun (i : Nat) (hi : i < L'.length) => hr.cells (List.getElem?_eq_getElem hi))
    clear hO hR hr hx
    go_wp2_with fail
    go_loopw [4, 5] (fun best kid wr => SinkR L' j w' best kid wr) (fun _ kid _ => 2 * j + 3 - (intOf kid).toNat)
    case atStart => exact ⟨j, 2 * j + 1, rfl, by go_num, Below.refl _ _, hj, .inl ⟨rfl, rfl⟩⟩
    case round =>
      obtain ⟨b, r, rfl, rfl, hB, hb, hrr⟩ := hrel
      have hbr : r ≤ 2 * j + 3 ∧ 2 * j + 1 ≤ r := by omega
      have HRR := Lib.hid hrr
      have HB := Lib.hid hB
      have a0' := cell_later hB a0
      clear hrr a0
      by_cases hin : r ≤ 2 * j + 2 ∧ r < L'.length
      · obtain ⟨q1, q2⟩ := hin
        obtain ⟨c0, c1, _, _⟩ := HC.out r q2
        obtain ⟨d0, d1, _, _⟩ := HC.out b hb
        replace c0 := cell_later hB c0
        replace c1 := cell_later hB c1
        replace d0 := cell_later hB d0
        replace d1 := cell_later hB d1
        clear hB
        have g0 : (0 : Int) ≤ (r : Int) := by omega
        have g1 : (r : Int) < (L'.length : Int) := by omega
        have g2 : (0 : Int) ≤ (b : Int) := by omega
        have g3 : (b : Int) < (L'.length : Int) := by omega
        have g4 : (r : Int) ≤ 2 * (j : Int) + 2 := by omega
        cases hA : aheadB L'[r] L'[b]
        all_goals
          have HA := Lib.hid hA
          clear hA
          go_wp2_with fail
          go_region_held3 (fun W => W.cell? ⟨pa, 0, none⟩ = some (.slice (some ⟨g, 0, none⟩) L'.length cap) ∧ W.cell? ⟨g, r * 2, none⟩ = some (.int .i64 L'[r].fst) ∧ W.cell? ⟨g, r * 2 + 1, none⟩ = some (.int .i64 L'[r].snd) ∧
              W.cell? ⟨g, b * 2, none⟩ = some (.int .i64 L'[b].fst) ∧ W.cell? ⟨g, b * 2 + 1, none⟩ = some (.int .i64 L'[b].snd))
            (first | go_keep | exact ⟨cell_later hb1 a0', cell_later hb1 c0, cell_later hb1 c1, cell_later hb1 d0, cell_later hb1 d1⟩)
            (first | (go_at_call 39; refine (ahead_is L'[r] L'[b] _ HA.out _).mono ?_; rintro e W1 ⟨rfl, hb1⟩))
          go_wp2_with fail
          go_roundw
          case measure => simp [intOf]; omega
        · have hrr := HRR.out
          have hs := bestS_no q2 hb HA.out
          refine ⟨b, r + 1, rfl, by go_num, HB.out.trans ((below_of_drew hb1).mono HB.out.size), hb, ?_⟩
          rcases hrr with ⟨h1, h2⟩ | ⟨h1, h2⟩ | ⟨h1, h2⟩
          · rw [h1, h2] at hs
            exact .inr (.inl ⟨by omega, by rw [hs, h2]⟩)
          · rw [h1, h2] at hs
            exact .inr (.inr ⟨by omega, by rw [h2]; unfold bestL; rw [hs]⟩)
          · omega
        · have hrr := HRR.out
          have hs := bestS_yes q2 hb HA.out
          refine ⟨r, r + 1, rfl, by go_num, HB.out.trans ((below_of_drew hb1).mono HB.out.size), q2, ?_⟩
          rcases hrr with ⟨h1, h2⟩ | ⟨h1, h2⟩ | ⟨h1, h2⟩
          · rw [h1, h2] at hs
            exact .inr (.inl ⟨by omega, by rw [hs, h1]⟩)
          · rw [h1, h2] at hs
            exact .inr (.inr ⟨by omega, by rw [h1]; unfold bestL; rw [hs]⟩)
          · omega
      · have hbest : b = bestL L' j := by
          rcases HRR.out with ⟨h1, h2⟩ | ⟨h1, h2⟩ | ⟨h1, h2⟩
          · unfold bestL
            rw [bestS_ge (kid := 2 * j + 1) (by omega), bestS_ge (by omega)]; exact h2
          · unfold bestL
            rw [bestS_ge (kid := 2 * j + 2) (by omega)]; exact h2
          · exact h2
        have HBE := Lib.hid hbest
        clear hbest
        by_cases hbj : b = j
        · have hne : ((b : Int) != (j : Int)) = false := by simp [hbj]
          have HBJ := Lib.hid hbj
          clear hbj
          go_wp2_with fail
          all_goals
            simp only [Exit.jump]
            go_end0
            have hR := HR.out
            refine ⟨rfl, ?_, HO.out.then_ (Only.of_below HB.out)⟩
            have h1 : sinkL L'.length L' j = L' := by
              obtain ⟨f, hf⟩ : ∃ f, L'.length = f + 1 := ⟨L'.length - 1, by omega⟩
              rw [hf, sinkL, if_pos (by rw [← HBE.out]; exact HBJ.out)]
            rw [← hR, h1]
            exact HA'.out.below HB.out
        · have hne : ((b : Int) != (j : Int)) = true := by simp; omega
          have HBJ := Lib.hid hbj
          clear hbj
          go_wp2_with fail
          all_goals
            refine ((HA'.out.below HB.out).swap hj hb _ _ rfl rfl).mono ?_
            rintro e w2 ⟨rfl, h2, ho2⟩
            go_wp2_with fail
            go_step3
            have hR := HR.out
            have hgt := bestL_gt (L := L') (k := j) (by rw [← HBE.out]; exact HBJ.out)
            have h1 : sinkL (swapL L' j b).length (swapL L' j b) b = sinkL L.length L k := by
              rw [← hR]
              obtain ⟨f, hf⟩ : ∃ f, L'.length = f + 1 := ⟨L'.length - 1, by omega⟩
              conv => rhs; rw [hf, sinkL, if_neg (by rw [← HBE.out]; exact HBJ.out), ← HBE.out]
              have := HBE.out
              exact sinkL_more (by rw [swapL_length]; exact hb) (by omega) (by rw [swapL_length]; omega)
            exact ⟨rfl, ⟨swapL L' j b, b, _, _, _, _, _, _, _, _, _, _, _, _, _, _, _, _, _, _, _, _, _, _, _, _, _, _, _, _, _, _, _, _, _, _, _, _, _, _, _, _, _, _, _, _, _, _, _, _, rfl, by rw [swapL_length]; exact hb, h2, (HO.out.then_ (Only.of_below HB.out)).then_ ho2, h1⟩, by have := HBE.out; simp [intOf]; omega⟩
end Go.Proofs.Ytcnifhkgibopbaa
set_option linter.unusedVariables false
set_option linter.unusedSimpArgs false
namespace Go.Proofs.Ytcnifhkgibopbaa
open Go.RowKit Go.MapKept Go.ChangeMaps
theorem right_is (at_ : Int) (v : Bool) (hv : (decide (0 ≤ at_) && decide (at_ ≤ 1099511627776)) = v) (w : World) :
    Calls Try.prog 26 #[.int .i64 at_] w fun e w' => e = .returned (.bool v) ∧ w = w' := by
  subst hv
  exact right_any at_ w
theorem Try.infoDue : (Try.prog.info? 33).map (fun i => (i.zero, i.size, i.bytes)) = some (some (.agg #[.int .i64 0, .int .i64 0]), 2, 16) := by kernel_rfl
theorem Alm.last {w : World} {pa : Nat} {L : List D2} {last : Int} {S : Nat → Prop} (h : Alm w pa L last S) : w.cell? ⟨pa, 2, none⟩ = some (.int .i64 last) := by
  obtain ⟨_, _, _, hr, _⟩ := h
  exact hr.heads.2.2.1
theorem AlmRaw.slice {w : World} {pa mb : Nat} {v : Value} {L : List (Int × Int)} {m : List (Int × Nat)} {last : Int} {S : Nat → Prop} (h : AlmRaw w pa mb v L m last S) : ∃ A c, v = .slice A L.length c := by
  rcases h.row.2 with ⟨rfl, h0⟩ | ⟨g, cap, cur, rfl, _⟩
  · exact ⟨none, 0, by rw [h0]⟩
  · exact ⟨_, cap, rfl⟩
theorem AlmRaw.pushed {w w1 : World} {pa mb : Nat} {v v1 : Value} {L : List (Int × Int)} {m : List (Int × Nat)} {last last' : Int} {S : Nat → Prop} (h : AlmRaw w pa mb v L m last S)
    (hown : w1.ownsRow 0 33 2 v1 (L.length + 1) (flat due L ++ [.int .i64 0, .int .i64 0])) (hg : (w.setCell ⟨pa, 2, none⟩ (.int .i64 last')).grownBy w1 v.ownBlock)
    (hat : v1.ownBlock = v.ownBlock ∨ v1.ownBlock = some ((w.setCell ⟨pa, 2, none⟩ (.int .i64 last')).heap.size + 1)) :
    w1.heap[pa]? = some (.cells #[v, .map (some mb), .int .i64 last'] 62 (0, 0)) ∧
    AlmRaw (w1.setCell ⟨pa, 0, none⟩ v1) pa mb v1 (L ++ [(0, 0)]) m last' (fun k => S k ∨ v1.ownBlock = some k) ∧ Only S w (w1.setCell ⟨pa, 0, none⟩ v1) ∧ ∀ k, (S k ∨ v1.ownBlock = some k) → S k ∨ w.heap.size ≤ k := by
  have lpa := lt_of_heap h.box
  have lmb := h.map.lt
  have hsz : (w.setCell ⟨pa, 2, none⟩ (.int .i64 last')).heap.size = w.heap.size := by simp
  have hne : ∀ k, some k = v.ownBlock → S k ∧ k ≠ pa ∧ k ≠ mb := fun k hk => h.inS.2.2 k hk.symm
  have hb1 : w1.heap[pa]? = some (.cells #[v, .map (some mb), .int .i64 last'] 62 (0, 0)) := by
    rw [hg.block pa (by rw [hsz]; exact lpa) fun e => (hne pa e).2.1 rfl]
    have := heap_set_eq (i := 2) w (.int .i64 last') h.box
    simpa using this
  have hmb1 : w1.heap[mb]? = w.heap[mb]? := by
    rw [hg.block mb (by rw [hsz]; exact lmb) fun e => (hne mb e).2.2 rfl]
    exact Below.heap_setCell _ _ _ _ (Ne.symm h.ne)
  have hon : ∀ g, v1.ownBlock = some g → g ≠ pa ∧ g ≠ mb ∧ g < w1.heap.size ∧ (S g ∨ w.heap.size ≤ g) := by
    intro g hgg
    have hlt : g < w1.heap.size := (hown.lt g hgg).2
    rcases hat with e | e
    · rw [e] at hgg
      have := h.inS.2.2 g hgg
      exact ⟨this.2.1, this.2.2, hlt, .inl this.1⟩
    · rw [e] at hgg
      injection hgg with hgg
      rw [hsz] at hgg
      exact ⟨by omega, by omega, hlt, .inr (by omega)⟩
  have hw1 : w.heap.size ≤ w1.heap.size := by have := hg.size; rw [hsz] at this; exact this
  refine ⟨hb1, ⟨?_, ?_, ?_, ⟨.inl h.inS.1, .inl h.inS.2.1, fun g hgg => ⟨.inr hgg, (hon g hgg).1, (hon g hgg).2.1⟩⟩, h.ne, ?_⟩, ?_, ?_⟩
  · have := heap_set_eq (i := 0) w1 v1 hb1
    simpa using this
  · have e : flat due (L ++ [(0, 0)]) = flat due L ++ [.int .i64 0, .int .i64 0] := by rw [flat_append]; rfl
    rw [e, List.length_append, List.length_singleton]
    exact ((Only.refl (· = pa) w1).setCell (p := ⟨pa, 0, none⟩) (.inl rfl) v1).own hown fun g hgg => (hon g hgg).1
  · refine h.map.of_block ?_
    rw [Below.heap_setCell _ _ _ _ (Ne.symm h.ne)]
    exact hmb1
  · intro k hk
    simp only [World.size_setCell]
    rcases hk with hk | hk
    · have := h.low k hk; omega
    · exact (hon k hk).2.2.1
  · exact ((((Only.refl S w).setCell (p := ⟨pa, 2, none⟩) (.inl h.inS.1) _).grown hg fun k hk => .inl (h.inS.2.2 k hk).1)).setCell (.inl h.inS.1) _
  · intro k hk
    rcases hk with hk | hk
    · exact .inl hk
    · exact (hon k hk).2.2.2
set_option maxRecDepth 100000 in
set_option maxHeartbeats 400000 in
theorem set_yes (pa : Nat) (at_ : Int) (L : List D2) (last : Int) (S : Nat → Prop) (w : World) (h : Alm w pa L last S) (hr : (decide (0 ≤ at_) && decide (at_ ≤ 1099511627776)) = true) (hlen : L.length < 4096) (hl0 : 0 ≤ last) (hl1 : last ≤ 4611686018427387904) (hf : ∀ d ∈ L, d.2 ≤ last) :
    Calls Try.prog 12 #[.pointer (some ⟨pa, 0, none⟩), .int .i64 at_] w fun e w' => e = .returned (.tuple #[.int .i64 (last + 1), .int .i64 0]) ∧
      ∃ S', Alm w' pa (setL L at_ (last + 1)) (last + 1) S' ∧ (∀ k, S' k → S k ∨ w.heap.size ≤ k) ∧ Only S w w' := by
  obtain ⟨mb, v, m, hw, hx⟩ := h
  obtain ⟨A, c, hv⟩ := hw.slice
  subst hv
  obtain ⟨a0, a1, a2, a3, a4, a5⟩ := hw.heads
  have lpa := lt_of_heap hw.box
  have hrow1 := (((Only.refl (· = pa) w).setCell (p := ⟨pa, 2, none⟩) (.inl rfl) (.int .i64 (last + 1)))).own hw.row fun g hg => (hw.inS.2.2 g hg).2.1
  have hb1 := heap_set_eq (i := 2) w (.int .i64 (last + 1)) hw.box
  have HROW := Lib.hid hrow1
  have HB1 := Lib.hid hb1
  have HW := Lib.hid hw
  have HX := Lib.hid hx
  have HF := Lib.hid hf
  have HR := Lib.hid hr
  have hne : ¬ (4096 : Int) ≤ (L.length : Int) := by omega
  clear hw hx hf hr hrow1 hb1
  go_enter Try.func12, Try.ntmps12
  go_wp2_with (first | (go_at_call 26; refine (right_is at_ true HR.out _).mono ?_; rintro e w' ⟨rfl, rfl⟩) | (at_builtin; refine holdL ?_))
  refine HoldL.go ?_
  refine append_one rfl _ _ 29 33 (.agg #[.int .i64 0, .int .i64 0]) 2 16 rfl Try.underlying29 Try.infoDue rfl (by omega) (by omega) (.slice A L.length c) L.length (flat due L) #[.int .i64 0, .int .i64 0] w.heap.size rfl rfl (by simp) rfl (by simp [Value.oneCell']) HROW.out (by omega) ?_
  intro v1 w1 hown hg hat
  obtain ⟨hbox, hraw, honly, hsub⟩ := HW.out.pushed hown hg hat
  obtain ⟨L1, hL1⟩ : ∃ L1, L1 = L ++ [((0 : Int), (0 : Int))] := ⟨_, rfl⟩
  rw [← hL1] at hraw
  have hl1 : L1.length = L.length + 1 := by rw [hL1]; simp
  obtain ⟨g, cap, hv1⟩ := hraw.form (k := L.length) (by omega)
  rw [hl1] at hv1
  subst hv1
  have b0 := cell_of_cells hbox 0
  have f0 := free_of_cells hbox 0
  simp only [List.getElem?_toArray, List.getElem?_cons_zero] at b0
  have c0 := (hraw.heads).1
  have c2 := (hraw.heads).2.2.1
  have HRAW := Lib.hid hraw
  have HONLY := Lib.hid honly
  have HSUB := Lib.hid hsub
  have HL1 := Lib.hid hL1
  have HLL := Lib.hid hl1
  have hok : iok (last + 1) := WalkArith.wf_i64 (by omega)
  clear hraw honly hsub hL1 hl1 hown hg hat hbox a0 a1 a2 a3 a4 a5
  go_wp2_with fail
  refine gen_world (fun W => Hid (AlmRaw W pa mb (.slice (some ⟨g, 0, none⟩) (L.length + 1) cap) L1 m (last + 1) (fun k => S k ∨ (Value.slice (some ⟨g, 0, none⟩) (L.length + 1) cap).ownBlock = some k)) ∧ Hid (Only S w W)) ⟨HRAW, HONLY⟩ ?_
  clear HRAW HONLY c0 c2 b0 f0
  intro W ⟨HRAW, HONLY⟩
  have c0 := (HRAW.out.heads).1
  have c2 := (HRAW.out.heads).2.2.1
  obtain ⟨S', hS'⟩ : ∃ S', S' = (fun k => S k ∨ (Value.slice (some ⟨g, 0, none⟩) (L.length + 1) cap).ownBlock = some k) := ⟨_, rfl⟩
  rw [← hS'] at HRAW
  have e1 : (L.length : Int) + 1 - 1 = (L.length : Int) := by omega
  have ew : IntKind.i64.wrap (L.length : Int) = (L.length : Int) := IntWalk.i64_in _ (by omega)
  go_region_held3 (fun W => W.cell? ⟨pa, 0, none⟩ = some (.slice (some ⟨g, 0, none⟩) (L.length + 1) cap) ∧ W.cell? ⟨pa, 2, none⟩ = some (.int .i64 (last + 1)))
    (first | go_keep | exact ⟨(h3.heads).1, (h3.heads).2.2.1⟩)
    (first | (go_at_call 27; (with_reducible refine (lay_any pa mb g cap L.length at_ (last + 1) L1 m (last + 1) S' _ (by rw [HLL.out]; exact HRAW.out.drew) (by rw [HLL.out]; omega) hok _ rfl (L.length + 1) HLL.out.symm).mono ?_); rintro e W1 ⟨rfl, h3, ho3⟩; rw [HLL.out] at h3))
  clear ew
  go_wp2_with fail
  have hset : L1.set L.length (at_, last + 1) = L ++ [(at_, last + 1)] := by rw [HL1.out]; simp
  have ha : Alm W1 pa (L ++ [(at_, last + 1)]) (last + 1) S' := by
    rw [hset] at h3
    have hl : (L ++ [(at_, last + 1)]).length = L.length + 1 := by simp
    exact ⟨mb, _, _, h3, HX.out.push _ (fun x hx => by have := HF.out x hx; simp only []; omega) hok hlen⟩
  have HA := Lib.hid ha
  have HO3 := Lib.hid ho3
  have HS' := Lib.hid hS'
  clear hset ha ho3 h3 hS'
  refine (rise_any pa L.length _ _ _ _ HA.out (by simp) _ rfl).mono ?_
  rintro e W2 ⟨rfl, h4, ho4⟩
  have c2 := h4.last
  have H4 := Lib.hid h4
  have HO4 := Lib.hid ho4
  clear h4 ho4
  go_wp2_with fail
  go_ret2
  refine ⟨rfl, S', H4.out, fun k hk => HSUB.out k (by rw [HS'.out] at hk; exact hk), ?_⟩
  have hx : ∀ i, i < w.heap.size → S' i → S i := fun i hi hk => by
    rcases HSUB.out i (by rw [HS'.out] at hk; exact hk) with h | h
    · exact h
    · omega
  exact (HONLY.out.drew.trans HO3.out hx).trans HO4.out hx
theorem set_arg (pa : Nat) (at_ : Int) (w : World) (hr : (decide (0 ≤ at_) && decide (at_ ≤ 1099511627776)) = false) :
    Calls Try.prog 12 #[.pointer (some ⟨pa, 0, none⟩), .int .i64 at_] w fun e w' => e = .returned (.tuple #[.int .i64 0, .int .i64 1]) ∧ w = w' := by
  have HR := Lib.hid hr
  clear hr
  go_enter Try.func12, Try.ntmps12
  go_wp2_with (first | (go_at_call 26; refine (right_is at_ false HR.out _).mono ?_; rintro e w' ⟨rfl, rfl⟩))
  go_ret2
  exact ⟨rfl, rfl⟩
end Go.Proofs.Ytcnifhkgibopbaa
set_option linter.unusedVariables false
set_option linter.unusedSimpArgs false
namespace Go.Proofs.Ytcnifhkgibopbaa
open Go.RowKit Go.MapKept Go.ChangeMaps
theorem AlmRaw.popped {w w2 : World} {pa mb g cap n : Nat} {L : List (Int × Int)} {m m2 : List (Int × Nat)} {last : Int} {S : Nat → Prop} (h : AlmRaw w pa mb (.slice (some ⟨g, 0, none⟩) n cap) L m last S) (hn : n = L.length) (hp : 0 < n)
    (hmap : GMap Try.prog 3 ik iok nk w2 mb m2) (ho : Only (· = mb) w w2) :
    AlmRaw (w2.setCell ⟨pa, 0, none⟩ (.slice (some ⟨g, 0, none⟩) (n - 1) cap)) pa mb (.slice (some ⟨g, 0, none⟩) (n - 1) cap) (L.take (n - 1)) m2 last S ∧ Only S w (w2.setCell ⟨pa, 0, none⟩ (.slice (some ⟨g, 0, none⟩) (n - 1) cap)) := by
  have hg := h.inS.2.2 g rfl
  have hbox := ho.obj h.box h.ne
  have hrow := ho.own h.row fun k hk => by simp [Value.ownBlock] at hk; subst hk; exact hg.2.2
  refine ⟨⟨?_, ?_, ?_, ⟨h.inS.1, h.inS.2.1, fun k hk => h.inS.2.2 k (by simpa [Value.ownBlock] using hk)⟩, h.ne, ?_⟩, ?_⟩
  · have := heap_set_eq (i := 0) w2 (.slice (some ⟨g, 0, none⟩) (n - 1) cap) hbox
    simpa using this
  · have hl : (L.take (n - 1)).length = n - 1 := by simp; omega
    rw [hl]
    have h1 : w2.ownsRow 0 33 2 (.slice (some ⟨g, 0, none⟩) (n - 1) cap) (n - 1) (flat due (L.take (n - 1))) := by
      refine ⟨by rw [flat_length due_length, hl], ?_⟩
      rcases hrow.2 with ⟨hv, _⟩ | ⟨g', cap', cur, hv, hb, hh, r1, r2, r3, r4⟩
      · cases hv
      · injection hv with e1 e2 e3
        injection e1 with e1
        injection e1 with e1
        subst e1; subst e3
        refine .inr ⟨g, cap, cur, rfl, hb, hh, by omega, r2, r3, ?_⟩
        have : (flat due L).take ((n - 1) * 2) = flat due (L.take (n - 1)) := by
          conv => lhs; rw [← List.take_append_drop (n - 1) L, flat_append]
          exact List.take_left' (by rw [flat_length due_length, hl])
        rw [← this, ← r4, List.take_take, Nat.min_eq_left (by omega)]
    exact ((Only.refl (· = pa) w2).setCell (p := ⟨pa, 0, none⟩) (.inl rfl) _).own h1 fun k hk => by simp [Value.ownBlock] at hk; subst hk; exact hg.2.1
  · exact hmap.of_block (Below.heap_setCell _ _ _ _ (Ne.symm h.ne))
  · intro k hk
    simp only [World.size_setCell]
    exact Nat.lt_of_lt_of_le (h.low k hk) ho.size
  · exact (ho.mono fun k _ e => by rw [e]; exact h.inS.2.1).setCell (.inl h.inS.1) _
set_option maxRecDepth 100000 in
set_option maxHeartbeats 400000 in
theorem drop_any (pa k : Nat) (L : List D2) (last : Int) (S : Nat → Prop) (w : World) (h : Alm w pa L last S) (hk : k < L.length) (k' : Int) (hk' : k' = k) :
    Calls Try.prog 29 #[.pointer (some ⟨pa, 0, none⟩), .int .i64 k'] w fun e w' => e = .returned (.tuple #[]) ∧ Alm w' pa (dropL L k) last S ∧ Only S w w' := by
  subst hk'
  have hsm : L.length ≤ 4096 := by obtain ⟨_, _, _, _, hx⟩ := h; exact hx.small
  have HH := Lib.hid h
  obtain ⟨mb, v, m, hw, hx⟩ := h
  obtain ⟨A, c, rfl⟩ := hw.slice
  obtain ⟨a0, _, _, _, _, _⟩ := hw.heads
  clear hw hx
  obtain ⟨n, hn⟩ : ∃ n, L.length = n + 1 := ⟨L.length - 1, by omega⟩
  have e1 : (L.length : Int) - 1 = (n : Int) := by omega
  have HN := Lib.hid hn
  clear hn
  go_enter Try.func29, Try.ntmps29
  go_wp2_with fail
  refine (HH.out.swap hk (k := n) (by have := HN.out; omega) _ _ rfl rfl).mono ?_
  rintro e w1 ⟨rfl, h1, ho1⟩
  obtain ⟨L1, hL1⟩ : ∃ L1, L1 = swapL L k n := ⟨_, rfl⟩
  rw [← hL1] at h1
  have hl1 : L1.length = n + 1 := by rw [hL1, swapL_length]; exact HN.out
  obtain ⟨mb1, v1, m1, hw1, hx1⟩ := h1
  obtain ⟨g, cap, rfl⟩ := hw1.form (k := n) (by omega)
  have hcap := hw1.lens.2.1
  obtain ⟨b0, b1, _, f0, _, _⟩ := hw1.heads
  obtain ⟨d, hd⟩ : ∃ d, L1[n]? = some d := ⟨_, List.getElem?_eq_getElem (by omega)⟩
  obtain ⟨c0, c1, _, _⟩ := hw1.cells hd
  obtain ⟨w2, hrun, hmap, honly⟩ := hw1.map.drew.delete (ty := 0) (int_like Try.underlying3) Try.underlying60 d.2 (hx1.ok _ (List.mem_of_getElem? hd))
  unfold ik at hrun
  have HM := Lib.hid hmap
  have HO2 := Lib.hid honly
  have HW1 := Lib.hid hw1
  have HX1 := Lib.hid hx1
  have HO1 := Lib.hid ho1
  have HL1 := Lib.hid hL1
  have g1 : (n : Int) < (L1.length : Int) := by omega
  have HLL := Lib.hid hl1
  have HD := Lib.hid hd
  clear hmap honly hw1 hx1 ho1 hL1 a0 hl1 hd
  go_wp2_with fail
  go_region
  have hbox2 := HO2.out.obj (w := w1.drew) HW1.out.box HW1.out.ne
  have b2 := cell_of_cells hbox2 0
  have f2 := free_of_cells hbox2 0
  simp only [List.getElem?_toArray, List.getElem?_cons_zero] at b2
  have hpop := AlmRaw.popped (w := w1.drew) HW1.out.drew rfl (by omega) HM.out HO2.out
  have hgl : L1[L1.length - 1]? = some d := by rw [HLL.out]; exact HD.out
  have hidx := HX1.out.pop (HW1.out.map.nodup (int_like Try.underlying3)) (by omega)
  have hd2 : L1[L1.length - 1].2 = d.2 := by
    have := List.getElem?_eq_getElem (show L1.length - 1 < L1.length by omega)
    rw [hgl] at this
    injection this with this
    rw [this]
  rw [hd2] at hidx
  have hl2 : (L1.take (L1.length - 1)).length = n := by simp; have := HLL.out; omega
  have ha : Alm (w2.setCell ⟨pa, 0, none⟩ (.slice (some ⟨g, 0, none⟩) (L1.length - 1) cap)) pa (L1.take (L1.length - 1)) last S := ⟨mb1, .slice (some ⟨g, 0, none⟩) (L1.length - 1) cap, _, by have := hpop.1; exact this, hidx⟩
  have hob := hpop.2
  rw [show L1.length - 1 = n by have := HLL.out; omega] at ha hob hl2
  have HA := Lib.hid ha
  have HOB := Lib.hid hob
  have HL2 := Lib.hid hl2
  have gc : (n : Int) ≤ (cap : Int) := by omega
  clear hpop hidx hd2 hgl ha hob hl2 hbox2
  have hdrop : dropL L k = if k < n then sinkL n (riseL k (L1.take n) k) k else L1.take n := by
    unfold dropL
    have e := HN.out
    rw [show L.length - 1 = n by omega, ← HL1.out]
    dsimp only
    rw [HL2.out]
  have HDR := Lib.hid hdrop
  clear hdrop
  by_cases hkn : k < n
  · go_wp2_with fail
    refine (rise_any pa k _ _ _ _ HA.out (by rw [HL2.out]; exact hkn) _ rfl).mono ?_
    rintro e w3 ⟨rfl, h3, ho3⟩
    go_wp2_with fail
    refine (sink_any pa k _ _ _ _ h3 (by rw [riseL_length, HL2.out]; exact hkn) _ rfl).mono ?_
    rintro e w4 ⟨rfl, h4, ho4⟩
    rw [riseL_length, HL2.out] at h4
    go_wp2_with fail
    go_end0
    refine ⟨rfl, ?_, ((HO1.out.drew.then_ HOB.out).then_ ho3).then_ ho4⟩
    rw [HDR.out, if_pos hkn]
    exact h4
  · go_wp2_with fail
    go_end0
    refine ⟨rfl, ?_, HO1.out.drew.then_ HOB.out⟩
    rw [HDR.out, if_neg hkn]
    exact HA.out
theorem len_any (pa : Nat) (L : List D2) (last : Int) (S : Nat → Prop) (w : World) (h : Alm w pa L last S) :
    Calls Try.prog 14 #[.pointer (some ⟨pa, 0, none⟩)] w fun e w' => e = .returned (.int .i64 L.length) ∧ w = w' := by
  obtain ⟨mb, v, m, hw, hx⟩ := h
  obtain ⟨A, c, rfl⟩ := hw.slice
  obtain ⟨a0, _, _, _, _, _⟩ := hw.heads
  clear hw hx
  go_enter Try.func14, Try.ntmps14
  go_wp2_with fail
  go_ret
  exact ⟨rfl, rfl⟩
theorem next_none (pa : Nat) (L : List D2) (last : Int) (S : Nat → Prop) (w : World) (h : Alm w pa L last S) (hl : L = []) :
    Calls Try.prog 16 #[.pointer (some ⟨pa, 0, none⟩)] w fun e w' => e = .returned (.tuple #[.agg #[.int .i64 0, .int .i64 0], .bool false]) ∧ Below w.heap.size w w' := by
  obtain ⟨mb, v, m, hw, hx⟩ := h
  obtain ⟨A, c, rfl⟩ := hw.slice
  obtain ⟨a0, _, _, _, _, _⟩ := hw.heads
  have lpa := lt_of_heap hw.box
  clear hw hx
  subst hl
  go_enter Try.func16, Try.ntmps16
  go_wp2_with fail
  exact bodyPost_ret (v := .tuple #[.agg #[.int .i64 0, .int .i64 0], .bool false]) (by simp [results, Try.results16, go_sem]) rfl ⟨rfl, (Below.refl _ _).alloc (Nat.le_refl _) _⟩
theorem next_some (pa : Nat) (L : List D2) (last : Int) (S : Nat → Prop) (w : World) (h : Alm w pa L last S) (d : D2) (hl : L[0]? = some d) :
    Calls Try.prog 16 #[.pointer (some ⟨pa, 0, none⟩)] w fun e w' => e = .returned (.tuple #[.agg #[.int .i64 d.1, .int .i64 d.2], .bool true]) ∧ Below w.heap.size w w' := by
  obtain ⟨mb, v, m, hw, hx⟩ := h
  have h0 : 0 < L.length := (List.getElem?_eq_some_iff.1 hl).1
  obtain ⟨g, cap, rfl⟩ := hw.form h0
  obtain ⟨a0, _, _, _, _, _⟩ := hw.heads
  obtain ⟨c0, c1, _, _⟩ := hw.cells hl
  have lpa := lt_of_heap hw.box
  have lg := hw.low g (hw.inS.2.2 g rfl).1
  have hne : ((L.length : Int) == 0) = false := beq_eq_false_iff_ne.2 (by omega)
  simp only [Nat.zero_mul, Nat.zero_add] at c0 c1
  clear hw hx hl
  go_enter Try.func16, Try.ntmps16
  go_wp2_with fail
  exact bodyPost_ret (v := .tuple #[.agg #[.int .i64 d.1, .int .i64 d.2], .bool true]) (by simp [results, Try.results16, go_sem]) rfl ⟨rfl, (Below.refl _ _).alloc (Nat.le_refl _) _⟩
theorem new_any (w : World) :
    Calls Try.prog 10 #[] w fun e w' => ∃ pa S, e = .returned (.pointer (some ⟨pa, 0, none⟩)) ∧ Alm w' pa [] 0 S ∧ (∀ k, S k → w.heap.size ≤ k) ∧ Below w.heap.size w w' := by
  have hmm := @run_makeMap Try.prog
  go_enter Try.func10, Try.ntmps10
  go_wp2_with fail
  go_ret
  refine ⟨w.heap.size + 1, fun k => k = w.heap.size ∨ k = w.heap.size + 1, rfl, ⟨w.heap.size, .slice none 0 0, [], ?_, ?_⟩, fun k hk => by omega, ((Below.refl _ w).alloc (Nat.le_refl _) _).alloc (by simp) _⟩
  · refine ⟨(heap_two w _ _).2, World.ownsRow_nil _ _ _ _, (GMap.made w).alloc _, ⟨.inr rfl, .inl rfl, fun g hg => by simp [Value.ownBlock] at hg⟩, by omega, fun k hk => by simp; omega⟩
  · exact ⟨fun id i => by simp [mget], rfl, by simp, by simp⟩
end Go.Proofs.Ytcnifhkgibopbaa
set_option linter.unusedVariables false
set_option linter.unusedSimpArgs false
namespace Go.Proofs.Ytcnifhkgibopbaa
open Go.RowKit Go.MapKept Go.ChangeMaps
def takeL : Nat → Int → List D2 → List D2 × List D2
  | 0, _, L => ([], L)
  | f + 1, now, L => if !L.isEmpty && decide ((L.getD 0 (0, 0)).1 ≤ now) then ((L.getD 0 (0, 0)) :: (takeL f now (dropL L 0)).1, (takeL f now (dropL L 0)).2) else ([], L)
theorem dropL_length {L : List D2} {k : Nat} (h : k < L.length) : (dropL L k).length = L.length - 1 := by
  unfold dropL
  have h1 : ((swapL L k (L.length - 1)).take (L.length - 1)).length = L.length - 1 := by
    rw [List.length_take, swapL_length]; omega
  dsimp only
  split
  · rw [sinkL_length, riseL_length, h1]
  · exact h1
theorem next_any (pa : Nat) (L : List D2) (last : Int) (S : Nat → Prop) (w : World) (h : Alm w pa L last S) :
    Calls Try.prog 16 #[.pointer (some ⟨pa, 0, none⟩)] w fun e w' => e = .returned (.tuple #[.agg #[.int .i64 (L.getD 0 (0, 0)).1, .int .i64 (L.getD 0 (0, 0)).2], .bool (!L.isEmpty)]) ∧ Below w.heap.size w w' := by
  cases L with
  | nil => exact next_none pa [] last S w h rfl
  | cons d r => exact next_some pa (d :: r) last S w h d rfl
theorem takeM_eq {w : World} {pa : Nat} {L : List D2} {last : Int} {S : Nat → Prop} (h : Alm w pa L last S) : (match w.cell? ⟨pa, 0, none⟩ with | some (.slice _ n _) => n | _ => 0) = L.length := by
  obtain ⟨mb, v, m, hw, hx⟩ := h
  obtain ⟨A, c, rfl⟩ := hw.slice
  rw [hw.heads.1]
def TakeR (pa : Nat) (last : Int) (S : Nat → Prop) (w : World) (now : Int) (R : List D2 × List D2) (v bx is : Value) (wr : World) : Prop :=
  ∃ (L' out : List D2) (b : Nat), bx = .pointer (some ⟨b, 0, none⟩) ∧ is = .bool (!L'.isEmpty) ∧ wr.heap[b]? = some (.cells #[.int .i64 (L'.getD 0 (0, 0)).1, .int .i64 (L'.getD 0 (0, 0)).2] 33 (0, 0)) ∧ w.heap.size ≤ b ∧
    wr.ownsRow 0 33 2 v out.length (flat due out) ∧ (∀ g, v.ownBlock = some g → w.heap.size ≤ g ∧ g ≠ b) ∧ Alm wr pa L' last S ∧ Only S w wr ∧ out.length + L'.length ≤ 4096 ∧
    R = (out ++ (takeL L'.length now L').1, (takeL L'.length now L').2)
def takeM (wr : World) (pa : Nat) : Nat := match wr.cell? ⟨pa, 0, none⟩ with
  | some (.slice _ n _) => n
  | _ => 0
set_option maxRecDepth 100000 in
set_option maxHeartbeats 400000 in
theorem take_any (pa : Nat) (now : Int) (L : List D2) (last : Int) (S : Nat → Prop) (w : World) (h : Alm w pa L last S) :
    Calls Try.prog 13 #[.pointer (some ⟨pa, 0, none⟩), .int .i64 now] w fun e w' => ∃ v, e = .returned v ∧ w'.ownsRow 0 33 2 v (takeL L.length now L).1.length (flat due (takeL L.length now L).1) ∧
      (∀ g, v.ownBlock = some g → w.heap.size ≤ g) ∧ Alm w' pa (takeL L.length now L).2 last S ∧ Only S w w' := by
  have hsm : L.length ≤ 4096 := by obtain ⟨_, _, _, _, hx⟩ := h; exact hx.small
  have HH := Lib.hid h
  clear h
  go_enter Try.func13, Try.ntmps13
  go_wp2_with fail
  refine (next_any pa L last S _ HH.out).mono ?_
  rintro e w1 ⟨rfl, hb1⟩
  have HB1 := Lib.hid hb1
  clear hb1
  go_wp2_with fail
  go_loopw [5, 6, 7] (fun v bx is wr => TakeR pa last S w now (takeL L.length now L) v bx is wr) (fun _ is _ wr => takeM wr pa)
  case atStart =>
    refine ⟨L, [], w1.heap.size, rfl, rfl, (MapKept.heap_alloc w1 _).1, HB1.out.size, World.ownsRow_nil _ _ _ _, fun g hg => by simp [Value.ownBlock] at hg, HH.out.below (HB1.out.alloc HB1.out.size _), (Only.of_below HB1.out).alloc _, by simpa using hsm, by simp⟩
  case round =>
    obtain ⟨L', out, b, rfl, rfl, hbx, hbb, hown, hne, hA, hO, hlen, hR⟩ := hrel
    have c0 := cell_of_cells hbx 0
    have c1 := cell_of_cells hbx 1
    have f0 := free_of_cells hbx 0
    have f1 := free_of_cells hbx 1
    simp only [List.getElem?_toArray, List.getElem?_cons_zero, List.getElem?_cons_succ] at c0 c1
    have HBX := Lib.hid hbx
    have HOWN := Lib.hid hown
    have HNE := Lib.hid hne
    have HA := Lib.hid hA
    have HO := Lib.hid hO
    have HR := Lib.hid hR
    clear hbx hown hne hA hO hR
    by_cases hgo : (!L'.isEmpty && decide ((L'.getD 0 (0, 0)).1 ≤ now)) = true
    · have hpos : 0 < L'.length := by
        cases L' with
        | nil => simp at hgo
        | cons d r => simp
      obtain ⟨d, hd⟩ : ∃ d, L'.getD 0 (0, 0) = d := ⟨_, rfl⟩
      have hstep : takeL L'.length now L' = (d :: (takeL (L'.length - 1) now (dropL L' 0)).1, (takeL (L'.length - 1) now (dropL L' 0)).2) := by
        conv => lhs; rw [show L'.length = (L'.length - 1) + 1 by omega]
        rw [takeL, if_pos hgo, hd]
      have he : L'.isEmpty = false := by
        cases L' with
        | nil => simp at hpos
        | cons d r => rfl
      simp only [he, Bool.not_false, Bool.true_and, decide_eq_true_eq] at hgo
      rw [hd] at hgo c0 c1 HBX
      have HSTEP := Lib.hid hstep
      have HE := Lib.hid he
      rw [he]
      simp only [Bool.not_false]
      clear hstep he hd
      go_wp2_with (first | (at_builtin; refine holdL ?_))
      refine HoldL.go ?_
      refine append_one rfl _ _ 29 33 (.agg #[.int .i64 0, .int .i64 0]) 2 16 rfl Try.underlying29 Try.infoDue rfl (by omega) (by omega) u5 out.length (flat due out) #[.int .i64 d.1, .int .i64 d.2] wr.heap.size rfl rfl rfl rfl (by simp [Value.oneCell']) HOWN.out (by omega) ?_
      intro v1 w2 hown2 hg2 hat2
      have ho2 : Only (fun k => u5.ownBlock = some k) wr w2 := (Only.refl _ wr).grown hg2 fun k hk => .inl hk
      have hlowS : ∀ k, S k → k < w.heap.size := by obtain ⟨_, _, _, hw, _⟩ := HH.out; exact hw.low
      have ha2 := HA.out.other ho2 fun k hk hk' => by have := hlowS k hk; have := (HNE.out k hk').1; omega
      have hbx2 := ho2.obj HBX.out fun hk => (HNE.out b hk).2 rfl
      have hne2 : ∀ g, v1.ownBlock = some g → w.heap.size ≤ g ∧ g < w2.heap.size := by
        intro g hg
        refine ⟨?_, (hown2.lt g hg).2⟩
        rcases hat2 with e | e
        · rw [e] at hg; exact (HNE.out g hg).1
        · rw [e] at hg
          injection hg with hg
          have := HO.out.size
          omega
      have hO2 : Only S w w2 := HO.out.trans ho2 fun i hi hk => by have := (HNE.out i hk).1; omega
      have HOWN2 := Lib.hid hown2
      have HA2 := Lib.hid ha2
      have HBX2 := Lib.hid hbx2
      have HNE2 := Lib.hid hne2
      have HO2 := Lib.hid hO2
      have HLOW := Lib.hid hlowS
      clear hown2 hg2 hat2 ho2 hlowS ha2 hbx2 hne2 hO2 c0 c1 f0 f1
      go_wp2_with fail
      refine (drop_any pa 0 L' last S _ HA2.out hpos _ rfl).mono ?_
      rintro e w3 ⟨rfl, h3, ho3⟩
      have hbx3 := ho3.obj HBX2.out fun hk => by have := HLOW.out b hk; omega
      have hown3 := ho3.own HOWN2.out fun g hg hk => by have := HLOW.out g hk; have := (HNE2.out g hg).1; omega
      have hsz3 := ho3.size
      have hO3 := HO2.out.then_ ho3
      have c0 := cell_of_cells hbx3 0
      have c1 := cell_of_cells hbx3 1
      simp only [List.getElem?_toArray, List.getElem?_cons_zero, List.getElem?_cons_succ] at c0 c1
      have lb3 := lt_of_heap hbx3
      have H3 := Lib.hid h3
      have HOWN3 := Lib.hid hown3
      have HO3 := Lib.hid hO3
      clear h3 ho3 hbx3 hown3 hO3
      go_wp2_with fail
      refine (next_any pa (dropL L' 0) last S _ (H3.out.below ((Below.refl _ _).alloc (Nat.le_refl _) _))).mono ?_
      rintro e w4 ⟨rfl, hb4⟩
      have hbx4 := (hb4.block w3.heap.size (by simp)).trans (MapKept.heap_alloc w3 _).1
      have c04 := cell_of_cells hbx4 0
      have c14 := cell_of_cells hbx4 1
      have f04 := free_of_cells hbx4 0
      have f14 := free_of_cells hbx4 1
      simp only [List.getElem?_toArray, List.getElem?_cons_zero, List.getElem?_cons_succ] at c04 c14
      have hb34 : Below w3.heap.size w3 w4 := ((Below.refl _ _).alloc (Nat.le_refl _) _).trans (hb4.mono (by simp))
      have HB34 := Lib.hid hb34
      have HBX4 := Lib.hid hbx4
      clear hb4 hb34 hbx4
      go_wp2_with fail
      have hO5 : Only (fun k => k = w3.heap.size) w4 ((w4.setCell ⟨w3.heap.size, 0, none⟩ (.int .i64 ((dropL L' 0)[0]?.getD (0, 0)).fst)).setCell ⟨w3.heap.size, 1, none⟩ (.int .i64 ((dropL L' 0)[0]?.getD (0, 0)).snd)) :=
        ((Only.refl (fun k => k = w3.heap.size) w4).setCell (p := ⟨w3.heap.size, 0, none⟩) (.inl rfl) _).setCell (p := ⟨w3.heap.size, 1, none⟩) (.inl rfl) _
      have hA5 := (H3.out.below HB34.out).other hO5 fun k hk e => by have := HLOW.out k hk; have := HO3.out.size; omega
      go_roundw
      case rel =>
        have hb5 := heap_set_eq (i := 1) _ (.int .i64 ((dropL L' 0)[0]?.getD (0, 0)).snd) (heap_set_eq (i := 0) w4 (.int .i64 ((dropL L' 0)[0]?.getD (0, 0)).fst) HBX4.out)
        refine ⟨dropL L' 0, out ++ [d], w3.heap.size, rfl, rfl, by simpa using hb5, by have := HO3.out.size; omega, ?_, ?_, hA5, ?_, ?_, ?_⟩
        · have e : flat due (out ++ [d]) = flat due out ++ [.int .i64 d.1, .int .i64 d.2] := by rw [flat_append]; rfl
          rw [e, List.length_append, List.length_singleton]
          exact hO5.own ((Only.of_below (S := fun _ => False) HB34.out).own HOWN3.out fun _ _ x => x) fun g hg e => by
            have := (HOWN3.out.lt g hg).2
            omega
        · intro g hg
          refine ⟨(HNE2.out g hg).1, ?_⟩
          have := (HOWN3.out.lt g hg).2
          omega
        · exact (HO3.out.then_ (Only.of_below HB34.out)).trans hO5 fun i hi e => by have := HO3.out.size; omega
        · rw [dropL_length hpos]; simp; omega
        · rw [HR.out, HSTEP.out, dropL_length hpos]; simp
      case measure =>
        unfold takeM
        rw [takeM_eq hA5, takeM_eq HA.out, dropL_length hpos]
        omega
    · have hstop : takeL L'.length now L' = ([], L') := by
        cases h : L'.length with
        | zero => rfl
        | succ f => rw [takeL, if_neg hgo]
      have HSTOP := Lib.hid hstop
      clear hstop
      by_cases he : L'.isEmpty = true
      · rw [he]
        simp only [Bool.not_true]
        clear hgo
        have HE := Lib.hid he
        clear he
        go_wp2_with fail
        go_ret
        refine ⟨u5, rfl, ?_⟩
        rw [HR.out, HSTOP.out]
        simp only [List.append_nil]
        exact ⟨HOWN.out, fun g hg => (HNE.out g hg).1, HA.out, HO.out⟩
      · have he' : L'.isEmpty = false := by simpa using he
        have hd : ¬ (L'.getD 0 (0, 0)).1 ≤ now := by simpa [he'] using hgo
        obtain ⟨d, hdd⟩ : ∃ d, L'.getD 0 (0, 0) = d := ⟨_, rfl⟩
        rw [hdd] at hd c0
        rw [he']
        simp only [Bool.not_false]
        have HE := Lib.hid he'
        clear he' he hgo hdd
        go_wp2_with fail
        go_ret
        refine ⟨u5, rfl, ?_⟩
        rw [HR.out, HSTOP.out]
        simp only [List.append_nil]
        exact ⟨HOWN.out, fun g hg => (HNE.out g hg).1, HA.out, HO.out⟩
end Go.Proofs.Ytcnifhkgibopbaa
set_option linter.unusedVariables false
set_option linter.unusedSimpArgs false
namespace Go.Proofs.Ytcnifhkgibopbaa
open Go.RowKit Go.ChangeShapes Go.WideShapes Go.ChangeAt
def Rd {α : Type} (f : α → List Value) (w : World) (v : Value) (L : List α) : Prop :=
  ∃ A c, v = .slice A L.length c ∧ L.length ≤ c ∧ L.length ≤ 9223372036854775807 ∧ (0 < L.length → ∃ b o, A = some ⟨b, o, none⟩ ∧ ∀ j u, (flat f L)[j]? = some u → w.cell? ⟨b, o + j, none⟩ = some u)
theorem Rd.below {α : Type} {f : α → List Value} {w w' : World} {v : Value} {L : List α} (h : Rd f w v L) (hb : Below w.heap.size w w') : Rd f w' v L := by
  obtain ⟨A, c, rfl, h1, h2, h3⟩ := h
  refine ⟨A, c, rfl, h1, h2, fun hp => ?_⟩
  obtain ⟨b, o, e, hc⟩ := h3 hp
  exact ⟨b, o, e, fun j u hu => cell_later hb (hc j u hu)⟩
theorem Rd.of_own {α : Type} {f : α → List Value} {s : Nat} (hf : ∀ x, (f x).length = s) {w : World} {base : Nat} {e : TypeId} {v : Value} {L : List α} (h : w.ownsRow base e s v L.length (flat f L)) : Rd f w v L := by
  rcases h.2 with ⟨rfl, h0⟩ | ⟨g, cap, cur, rfl, hb, hh, h1, h2, h3, h4⟩
  · exact ⟨none, 0, by rw [h0], by omega, by omega, fun hp => by omega⟩
  · refine ⟨_, cap, rfl, h1, by unfold maxLen at h2; omega, fun hp => ⟨g, 0, rfl, fun j u hu => ?_⟩⟩
    rw [Nat.zero_add, cell_of_cells hh, ← Array.getElem?_toList]
    rw [← h4, List.getElem?_take] at hu
    split at hu
    · exact hu
    · cases hu
def Opn (P : Program) (t : TypeId) {α : Type} (f : α → List Value) (R : World → α → Prop) : Prop :=
  ∀ (H : Type) (enc : TypeId × Value → H) (w : World) (base : Nat) (sp : Nat → Bool) (held : Bool) (fuel : Nat) (cs : List Value) (x : DataW H × List MemPlace), DataW.trod enc P w base sp held fuel t cs = some x → ∃ a : α, cs = f a ∧ R w a
variable {P : Program}
theorem opn_int {t : TypeId} {k : IntKind} (ht : P.underlying t = some (.int k)) : Opn P t (fun x : Int => [.int k x]) (fun _ x => (Lit.int k x).wf = true) := by
  intro H enc w base sp held fuel cs x h
  obtain ⟨n, rfl, _, hw⟩ := DataW.trod_int ht h
  exact ⟨n, rfl, hw⟩
theorem opn_slice {t e : TypeId} {α : Type} {f : α → List Value} {R : World → α → Prop} {s : Nat} (ht : P.underlying t = some (.slice e)) (hs : P.cellsOf e = s) (hf : ∀ a, (f a).length = s) (hs0 : 0 < s) (he : Opn P e f R) :
    Opn P t (fun a : Value × List α => [a.1]) (fun w a => Rd f w a.1 a.2 ∧ ∀ x ∈ a.2, R w x) := by
  intro H enc w base sp held fuel cs x h
  rcases Go.Deep.open_slice ht h with ⟨rfl, _⟩ | ⟨a, len, cap, m, n, D, Pl, rfl, hb, hl, hm, hmm, _, hx⟩
  · exact ⟨(.slice none 0 0, []), rfl, ⟨none, 0, rfl, Nat.le_refl _, by simp, fun hp => by simp at hp⟩, by simp⟩
  · have hlm : len ≤ m := by rw [hmm]; split <;> omega
    have each : ∀ i : Fin len, ∃ y : α, (∀ j u, (f y)[j]? = some u → w.cell? (a.add (i.val * s + j)) = some u) ∧ R w y := by
      intro i
      obtain ⟨cs', h1, h2⟩ := hx i.val (by omega)
      obtain ⟨y, rfl, hR⟩ := he H enc w base sp held n cs' _ h2
      rw [hs] at h1
      obtain ⟨_, hlen, hcell⟩ := World.cells?_some h1
      refine ⟨y, fun j u hu => ?_, hR⟩
      have hj : j < s := by have := (List.getElem?_eq_some_iff.1 hu).1; rw [hf] at this; exact this
      have := hcell j hj
      rw [Go.Deep.add_add, hu] at this
      exact this
    obtain ⟨g, hg⟩ : ∃ g : Fin len → α, ∀ i, (∀ j u, (f (g i))[j]? = some u → w.cell? (a.add (i.val * s + j)) = some u) ∧ R w (g i) := ⟨fun i => (each i).choose, fun i => (each i).choose_spec⟩
    have hLl : (List.ofFn g).length = len := by simp
    refine ⟨(.slice (some a) len cap, List.ofFn g), rfl, ⟨some a, cap, by rw [hLl], by rw [hLl]; exact hl, by rw [hLl]; unfold maxLen at hm; omega, fun hp => ?_⟩, fun x hx => ?_⟩
    · rw [hLl] at hp
      obtain ⟨b, off, spot⟩ := a
      have hspot : spot = none := by
        have h0 := (hg ⟨0, hp⟩).1
        have hfl := hf (g ⟨0, hp⟩)
        obtain ⟨u, hu⟩ : ∃ u, (f (g ⟨0, hp⟩))[0]? = some u := ⟨_, List.getElem?_eq_getElem (by omega)⟩
        have hc := h0 0 u hu
        simpa [Addr.add] using World.cell?_spot hc
      subst hspot
      refine ⟨b, off, rfl, fun j u hu => ?_⟩
      have hj : j < len * s := by have := (List.getElem?_eq_some_iff.1 hu).1; rw [flat_length hf, hLl] at this; exact this
      have hq : j / s < len := (Nat.div_lt_iff_lt_mul hs0).2 hj
      have hjj : j / s * s + j % s = j := Nat.div_add_mod' j s
      have h1 := flat_at hf (List.ofFn g) (j / s) (g ⟨j / s, hq⟩) (j % s) (by rw [List.getElem?_ofFn, dif_pos hq]) (Nat.mod_lt _ hs0)
      rw [hjj, hu] at h1
      have h2 := (hg ⟨j / s, hq⟩).1 (j % s) u h1.symm
      simp only [hjj] at h2
      have e : (⟨b, off, none⟩ : Addr).add j = ⟨b, off + j, none⟩ := by unfold Addr.add; split <;> simp_all
      rw [e] at h2
      exact h2
    · obtain ⟨i, rfl⟩ := List.mem_ofFn.1 hx
      exact (hg i).2
theorem opn_struct1 {t : TypeId} {fs : Array Field} {α : Type} {f : α → List Value} {R : World → α → Prop} (ht : P.underlying t = some (.struct fs))
    (h : ∀ (H : Type) (enc : TypeId × Value → H) (w : World) (base : Nat) (sp : Nat → Bool) (held : Bool) (n : Nat) (cs : List Value) (xs : List (DataW H × List MemPlace)), cs.length = P.cellsOf t →
      (∀ (i : Nat) (fd : Field), fs[i]? = some fd → ∃ y, DataW.trod enc P w base sp held n fd.type ((cs.drop fd.offset).take (P.cellsOf fd.type)) = some y) → ∃ a, cs = f a ∧ R w a) : Opn P t f R := by
  intro H enc w base sp held fuel cs x hx
  obtain ⟨xs, n, rfl, _, hlen, hxs, hf⟩ := DataW.trod_struct ht hx
  refine h H enc w base sp held n cs xs hlen fun i fd hfd => ?_
  have hi : i < xs.length := by have := (Array.getElem?_eq_some_iff.1 hfd).1; omega
  exact ⟨xs[i], by rw [hf i fd hfd, List.getElem?_eq_getElem hi]⟩
theorem Opn.arg {t : TypeId} {α : Type} {f : α → List Value} {R : World → α → Prop} (h : Opn P t f R) {H : Type} {enc : TypeId × Value → H} {w : World} {base : Nat} {sp : Nat → Bool} {held : Bool} {v : Value} {d : DataW H} {ps : List MemPlace}
    (ht : DataW.Trod enc P w base sp held t v d ps) : ∃ a, v.cells.toList = f a ∧ R w a := by
  obtain ⟨fuel, hf⟩ := ht
  exact h H enc w base sp held fuel _ _ hf
end Go.Proofs.Ytcnifhkgibopbaa
set_option linter.unusedVariables false
set_option linter.unusedSimpArgs false
namespace Go.Proofs.Ytcnifhkgibopbaa
open Go.RowKit Go.MapKept Go.ChangeMaps
theorem Rd.at_ {w : World} {v : Value} {L : List D2} (h : Rd due w v L) {k : Nat} {d : D2} (hk : L[k]? = some d) : ∃ b o c, v = .slice (some ⟨b, o, none⟩) L.length c ∧ w.cell? ⟨b, o + k * 2, none⟩ = some (.int .i64 d.1) ∧ w.cell? ⟨b, o + k * 2 + 1, none⟩ = some (.int .i64 d.2) := by
  obtain ⟨A, c, rfl, h1, h2, h3⟩ := h
  obtain ⟨b, o, rfl, hc⟩ := h3 (by have := (List.getElem?_eq_some_iff.1 hk).1; omega)
  have h4 := flat_due_at hk
  exact ⟨b, o, c, rfl, hc _ _ h4.1, by rw [Nat.add_assoc]; exact hc _ _ h4.2⟩
theorem Try.infoRDue : (Try.prog.info? 53).map (fun i => (i.zero, i.size, i.bytes)) = some (some (.agg #[.int .i64 0, .int .i64 0]), 2, 16) := by kernel_rfl
def RowsR (w : World) (L : List D2) (v i : Value) (wr : World) : Prop :=
  ∃ (k : Nat), i = .int .i64 k ∧ k ≤ L.length ∧ wr.ownsRow 0 53 2 v k (flat due (L.take k)) ∧ (∀ g, v.ownBlock = some g → w.heap.size ≤ g) ∧ Below w.heap.size w wr
set_option maxRecDepth 100000 in
set_option maxHeartbeats 400000 in
theorem rows_any (v : Value) (L : List D2) (w : World) (h : Rd due w v L) (hl : L.length ≤ 1000000) :
    Calls Try.prog 19 #[v] w fun e w' => ∃ v', e = .returned v' ∧ w'.ownsRow 0 53 2 v' L.length (flat due L) ∧ (∀ g, v'.ownBlock = some g → w.heap.size ≤ g) ∧ Below w.heap.size w w' := by
  have HH := Lib.hid h
  obtain ⟨A, c, rfl, h1, h2, h3⟩ := h
  clear h3 h2
  go_enter Try.func19, Try.ntmps19
  go_wp2_with fail
  go_loopw [3, 8] (fun v i wr => RowsR w L v i wr) (fun _ i wr => L.length - (intOf i).toNat)
  case atStart =>
    exact ⟨0, rfl, Nat.zero_le _, World.ownsRow_nil _ _ _ _, fun g hg => by simp [Value.ownBlock] at hg, Below.refl _ _⟩
  case round =>
    obtain ⟨k, rfl, hk, hown, hne, hB⟩ := hrel
    have HOWN := Lib.hid hown
    have HNE := Lib.hid hne
    have HB := Lib.hid hB
    clear hown hne hB
    by_cases hkl : k < L.length
    · obtain ⟨d, hd⟩ : ∃ d, L[k]? = some d := ⟨_, List.getElem?_eq_getElem hkl⟩
      obtain ⟨b, o, c', hv, c0, c1⟩ := (HH.out.below HB.out).at_ hd
      cases hv
      have lb := World.block_lt_of_cell? _ _ c0
      have HD := Lib.hid hd
      clear hd
      go_wp2_with (first | (at_builtin; refine holdL ?_))
      refine HoldL.go ?_
      refine append_one rfl _ _ 39 53 (.agg #[.int .i64 0, .int .i64 0]) 2 16 rfl Try.underlying39 Try.infoRDue rfl (by omega) (by omega) u3 k (flat due (L.take k)) #[.int .i64 d.1, .int .i64 d.2] (wr.heap.size + 1) rfl rfl (by simp) rfl (by simp [Value.oneCell']) (HOWN.out.alloc _) (by omega) ?_
      intro v1 w2 hown2 hg2 hat2
      go_wp2_with fail
      go_roundw
      case rel =>
        have e : flat due (L.take (k + 1)) = flat due (L.take k) ++ [.int .i64 d.1, .int .i64 d.2] := by
          rw [List.take_add_one, HD.out, flat_append]; rfl
        refine ⟨k + 1, by go_num, by omega, by rw [e]; exact hown2, ?_, ?_⟩
        · intro g hg
          rcases hat2 with e | e
          · rw [e] at hg; exact HNE.out g hg
          · rw [e] at hg
            injection hg with hg
            have := HB.out.size
            simp at hg
            omega
        · exact (HB.out.alloc HB.out.size _).grown hg2 (by have := HB.out.size; simp; omega) fun g hg => HNE.out g hg
      case measure => simp [intOf]; omega
    · go_wp2_with fail
      go_ret
      obtain rfl : k = L.length := by omega
      have := HOWN.out
      rw [List.take_length] at this
      exact ⟨u3, rfl, this, HNE.out, HB.out⟩
set_option maxRecDepth 100000 in
set_option maxHeartbeats 400000 in
theorem same_any (a b : Value) (L M : List D2) (w : World) (ha : Rd due w a L) (hb : Rd due w b M) :
    Calls Try.prog 18 #[a, b] w fun e w' => e = .returned (.bool (decide (L = M))) ∧ Below w.heap.size w w' := by
  have hu := Try.underlying53
  have HA := Lib.hid ha
  have HB := Lib.hid hb
  obtain ⟨A, c, rfl, h1, h2, h3⟩ := ha
  obtain ⟨B, c', rfl, k1, k2, k3⟩ := hb
  clear h3 k3
  by_cases hl : L.length = M.length
  · have hne : ((L.length : Int) != (M.length : Int)) = false := bne_eq_false_iff_eq.mpr (by omega)
    have HL := Lib.hid hl
    clear hl
    go_enter Try.func18, Try.ntmps18
    go_wp2_with fail
    go_loopw [5] (fun i wr => ∃ (k : Nat), i = .int .i64 k ∧ k ≤ L.length ∧ Hid (L.take k = M.take k) ∧ ∃ n, wr = w.drewN n) (fun i wr => L.length - (intOf i).toNat)
    case atStart => exact ⟨0, rfl, Nat.zero_le _, Lib.hid rfl, 0, rfl⟩
    case round =>
      obtain ⟨k, rfl, hk, HT, n, rfl⟩ := hrel
      by_cases hkl : k < L.length
      · obtain ⟨d, hd⟩ : ∃ d, L[k]? = some d := ⟨_, List.getElem?_eq_getElem hkl⟩
        obtain ⟨d', hd'⟩ : ∃ d, M[k]? = some d := ⟨_, List.getElem?_eq_getElem (by have := HL.out; omega)⟩
        obtain ⟨b, o, c2, hv, c0, c1⟩ := HA.out.at_ hd
        cases hv
        obtain ⟨b', o', c3, hv, c0', c1'⟩ := HB.out.at_ hd'
        cases hv
        have hkm : (k : Int) < (M.length : Int) := by have := HL.out; omega
        have hkl' : (k : Int) < (L.length : Int) := by omega
        have HD := Lib.hid (And.intro hd hd')
        clear hd hd'
        by_cases hdd : d = d'
        · subst hdd
          go_wp2_with fail
          go_quiet (fail)
          go_wp2_with fail
          go_roundw
          case rel => exact ⟨k + 1, by go_num, by omega, Lib.hid (by rw [List.take_add_one, List.take_add_one, HD.out.1, HD.out.2, HT.out]), _, rfl⟩
          case measure => simp [intOf]; omega
        · have hfin : L ≠ M := fun e => hdd (by have h := HD.out; rw [e] at h; have := h.1.symm.trans h.2; injection this)
          have HDD := Lib.hid hfin
          by_cases h1 : d.1 = d'.1
          · have h2 : d.2 ≠ d'.2 := fun h2 => hdd (Prod.ext h1 h2)
            have q1 : (d.1 == d'.1) = true := by simpa using h1
            have q2 : (d.2 == d'.2) = false := by simpa using h2
            clear hdd h1 h2 hfin
            go_wp2_with fail
            go_quiet (fail)
            go_wp2_with fail
            go_ret
            exact ⟨by simp [HDD.out], by first | exact below_drewN (Below.refl _ _) _ | exact below_drewN (below_drewN (Below.refl _ _) _) _⟩
          · have q1 : (d.1 == d'.1) = false := by simpa using h1
            clear hdd h1 hfin
            go_wp2_with fail
            go_quiet (fail)
            go_wp2_with fail
            go_ret
            exact ⟨by simp [HDD.out], by first | exact below_drewN (Below.refl _ _) _ | exact below_drewN (below_drewN (Below.refl _ _) _) _⟩
      · go_wp2_with fail
        go_ret
        refine ⟨?_, below_drewN (Below.refl _ _) _⟩
        have e1 := HT.out
        have e2 := HL.out
        rw [List.take_of_length_le (by omega), List.take_of_length_le (by omega)] at e1
        simp [e1]
  · have hne : ((L.length : Int) != (M.length : Int)) = true := bne_iff_ne.mpr (by omega)
    have HL := Lib.hid hl
    clear hl
    go_enter Try.func18, Try.ntmps18
    go_wp2_with fail
    go_ret
    refine ⟨?_, Below.refl _ _⟩
    have : L ≠ M := fun e => HL.out (by rw [e])
    simp [this]
end Go.Proofs.Ytcnifhkgibopbaa
set_option linter.unusedVariables false
set_option linter.unusedSimpArgs false
namespace Go.Proofs.Ytcnifhkgibopbaa
open Go.RowKit Go.MapKept Go.ChangeMaps
def findL (L : List D2) (id : Int) : Option Nat := L.findIdx? fun d => d.2 == id
theorem findL_some {L : List D2} {id : Int} {i : Nat} (h : findL L id = some i) : ∃ d, L[i]? = some d ∧ d.2 = id := by
  unfold findL at h
  obtain ⟨hi, h1, _⟩ := List.findIdx?_eq_some_iff_getElem.1 h
  exact ⟨L[i], List.getElem?_eq_getElem hi, by simpa using h1⟩
theorem Idx.find {L : List D2} {m : List (Int × Nat)} (h : Idx L m) (id : Int) : mget m id = findL L id := by
  cases hf : findL L id with
  | none =>
    cases hm : mget m id with
    | none => rfl
    | some i =>
      obtain ⟨d, hd, he⟩ := (h.get id i).1 hm
      unfold findL at hf
      rw [List.findIdx?_eq_none_iff] at hf
      have := hf d (List.mem_of_getElem? hd)
      simp [he] at this
  | some i =>
    obtain ⟨d, hd, he⟩ := findL_some hf
    exact (h.get id i).2 ⟨d, hd, he⟩
theorem zero_int (w : World) : (zeroValue 3).run Try.prog w = .ok (.int .i64 0) w := by kernel_rfl
theorem cancel_none (pa : Nat) (id : Int) (L : List D2) (last : Int) (S : Nat → Prop) (w : World) (h : Alm w pa L last S) (hid : iok id) (hf : findL L id = none) :
    Calls Try.prog 24 #[.pointer (some ⟨pa, 0, none⟩), .int .i64 id] w fun e w' => e = .returned (.bool false) ∧ w = w' := by
  obtain ⟨mb, v, m, hw, hx⟩ := h
  obtain ⟨_, a1, _, _, _, _⟩ := hw.heads
  have hrun := hw.map.lookup (int_like Try.underlying3) Try.underlying60 (zero_int w) id hid true
  rw [hx.find, hf] at hrun
  simp only [if_true, ik] at hrun
  clear hw hx hf hid
  go_enter Try.func24, Try.ntmps24
  go_wp2_with fail
  go_ret
  exact ⟨rfl, rfl⟩
theorem cancel_some (pa : Nat) (id : Int) (L : List D2) (last : Int) (S : Nat → Prop) (w : World) (h : Alm w pa L last S) (hid : iok id) (k : Nat) (hf : findL L id = some k) :
    Calls Try.prog 24 #[.pointer (some ⟨pa, 0, none⟩), .int .i64 id] w fun e w' => e = .returned (.bool true) ∧ Alm w' pa (dropL L k) last S ∧ Only S w w' := by
  have HH := Lib.hid h
  obtain ⟨mb, v, m, hw, hx⟩ := h
  obtain ⟨_, a1, _, _, _, _⟩ := hw.heads
  have hrun := hw.map.lookup (int_like Try.underlying3) Try.underlying60 (zero_int w) id hid true
  rw [hx.find, hf] at hrun
  simp only [if_true, ik, nk] at hrun
  have hk : k < L.length := by obtain ⟨d, hd, _⟩ := findL_some hf; exact (List.getElem?_eq_some_iff.1 hd).1
  clear hw hx hf hid
  go_enter Try.func24, Try.ntmps24
  go_wp2_with fail
  refine (drop_any pa k L last S _ HH.out hk _ rfl).mono ?_
  rintro e w1 ⟨rfl, h1, ho1⟩
  go_wp2_with fail
  go_ret
  exact ⟨rfl, h1, ho1⟩
set_option maxRecDepth 100000 in
theorem check_nil (pa : Nat) (last : Int) (S : Nat → Prop) (w : World) (h : Alm w pa [] last S) :
    Calls Try.prog 21 #[.pointer (some ⟨pa, 0, none⟩)] w fun e w' => e = .returned (.bool true) ∧ Below w.heap.size w w' := by
  obtain ⟨mb, v, m, hw, hx⟩ := h
  obtain ⟨A, c, rfl⟩ := hw.slice
  obtain ⟨a0, a1, _, _, _, _⟩ := hw.heads
  have hl := hx.len
  simp only [List.length_nil] at a0 hl
  have hlen : ∀ (w' : World), w'.heap = w.heap → (Builtin.len_ #[60] 3 #[.map (some mb)]).run Try.prog w' = .ok (.int .i64 0) w' := by
    intro w' hw'
    have hm : GMap Try.prog 3 ik iok nk w' mb m := hw.map.of_block (by rw [hw'])
    have := hm.len (ty := 3) Try.underlying60
    rw [hl] at this
    exact this
  have h1 := hlen w.drew rfl
  have h2 := hlen w rfl
  clear hw hx hl hlen
  go_enter Try.func21, Try.ntmps21
  go_wp2_with fail
  refine wp_loop_rounds 1 ?_
  rw [rounds_succ]
  go_wp2_with fail
  go_region
  go_wp2_with fail
  go_ret
  exact ⟨rfl, below_drewN (Below.refl _ _) 1⟩
end Go.Proofs.Ytcnifhkgibopbaa
set_option linter.unusedVariables false
set_option linter.unusedSimpArgs false
namespace Go.Proofs.Ytcnifhkgibopbaa
open Go.RowKit Go.MapKept Go.ChangeMaps
theorem below_of_only {S : Nat → Prop} {B : Nat} {a w w' : World} (hb : Below B a w) (h : Only S w w') (hB : B ≤ w.heap.size) (hs : ∀ k, S k → B ≤ k) : Below B a w' := hb.trans (h.below hB hs)
set_option maxRecDepth 100000 in
set_option maxHeartbeats 800000 in
theorem alive_any (w : World) : Calls Try.prog 11 #[] w fun e w' => e = .returned (.bool true) ∧ Below w.heap.size w w' := by
  go_enter Try.func11, Try.ntmps11
  go_wp2_with fail
  refine (new_any _).mono ?_
  rintro e w1 ⟨pa, S1, rfl, h1, hs1, hb1⟩
  have H1 := Lib.hid (And.intro h1 (And.intro hs1 hb1))
  clear h1 hs1 hb1
  go_wp2_with fail
  refine (set_yes pa 5 [] 0 S1 _ H1.out.1 (by decide) (by simp) (by omega) (by omega) (by simp)).mono ?_
  rintro e w2 ⟨rfl, S2, h2, hs2, ho2⟩
  rw [show setL [] 5 (0 + 1) = [(5, 1)] by decide] at h2
  have hb2 := below_of_only H1.out.2.2 ho2 H1.out.2.2.size H1.out.2.1
  have hs2' : ∀ k, S2 k → w.heap.size ≤ k := fun k hk => by
    rcases hs2 k hk with h | h
    · exact H1.out.2.1 k h
    · have := H1.out.2.2.size; omega
  have H2 := Lib.hid (And.intro h2 (And.intro hs2' hb2))
  clear h2 hs2 ho2 hb2 hs2' H1
  go_wp2_with fail
  refine (set_yes pa 3 [(5, 1)] (0 + 1) S2 _ H2.out.1 (by decide) (by simp) (by omega) (by omega) (by simp)).mono ?_
  rintro e w3 ⟨rfl, S3, h3, hs3, ho3⟩
  rw [show setL [(5, 1)] 3 (0 + 1 + 1) = [(3, 2), (5, 1)] by decide] at h3
  have hb3 := below_of_only H2.out.2.2 ho3 H2.out.2.2.size H2.out.2.1
  have hs3' : ∀ k, S3 k → w.heap.size ≤ k := fun k hk => by
    rcases hs3 k hk with h | h
    · exact H2.out.2.1 k h
    · have := H2.out.2.2.size; omega
  have H3 := Lib.hid (And.intro h3 (And.intro hs3' hb3))
  clear h3 hs3 ho3 hb3 hs3' H2
  go_wp2_with fail
  refine (set_yes pa 5 [(3, 2), (5, 1)] (0 + 1 + 1) S3 _ H3.out.1 (by decide) (by simp) (by omega) (by omega) (by simp)).mono ?_
  rintro e w4 ⟨rfl, S4, h4, hs4, ho4⟩
  rw [show setL [(3, 2), (5, 1)] 5 (0 + 1 + 1 + 1) = [(3, 2), (5, 1), (5, 3)] by decide] at h4
  have hb4 := below_of_only H3.out.2.2 ho4 H3.out.2.2.size H3.out.2.1
  have hs4' : ∀ k, S4 k → w.heap.size ≤ k := fun k hk => by
    rcases hs4 k hk with h | h
    · exact H3.out.2.1 k h
    · have := H3.out.2.2.size; omega
  have H4 := Lib.hid (And.intro h4 (And.intro hs4' hb4))
  clear h4 hs4 ho4 hb4 hs4' H3
  go_wp2_with fail
  refine (set_arg pa (-1) _ (by decide)).mono ?_
  rintro e w4' ⟨rfl, rfl⟩
  go_wp2_with fail
  refine (cancel_some pa 1 _ _ S4 _ H4.out.1 (by unfold iok; decide) 1 (by decide)).mono ?_
  rintro e w5 ⟨rfl, h5, ho5⟩
  rw [show dropL [(3, 2), (5, 1), (5, 3)] 1 = [(3, 2), (5, 3)] by decide] at h5
  have hb5 := below_of_only H4.out.2.2 ho5 H4.out.2.2.size H4.out.2.1
  have H5 := Lib.hid (And.intro h5 (And.intro H4.out.2.1 hb5))
  clear h5 ho5 hb5 H4
  go_wp2_with fail
  refine (take_any pa 9 _ _ S4 _ H5.out.1).mono ?_
  rintro e w6 ⟨v6, rfl, hown6, hne6, h6, ho6⟩
  rw [show takeL (List.length [((3 : Int), (2 : Int)), (5, 3)]) 9 [(3, 2), (5, 3)] = ([(3, 2), (5, 3)], []) by decide] at hown6 h6
  have hb6 := below_of_only H5.out.2.2 ho6 H5.out.2.2.size H5.out.2.1
  have H6 := Lib.hid (And.intro h6 (And.intro H5.out.2.1 hb6))
  have HR6 := Lib.hid (Rd.of_own due_length hown6)
  clear h6 ho6 hb6 hown6 hne6 H5
  go_wp2_with fail
  refine (rows_any v6 _ _ HR6.out (by simp)).mono ?_
  rintro e w7 ⟨v7, rfl, hown7, hne7, hb7⟩
  have H7 := Lib.hid (And.intro (H6.out.1.below hb7) (And.intro H6.out.2.1 (H6.out.2.2.trans (hb7.mono H6.out.2.2.size))))
  have HR7 := Lib.hid (Rd.of_own due_length hown7)
  clear hown7 hne7 hb7 H6 HR6
  go_wp2_with fail
  have hlit : Rd due (w7.alloc (.cells #[.int .i64 3, .int .i64 2, .int .i64 5, .int .i64 3] 53)) (.slice (some ⟨w7.heap.size, 0, none⟩) 2 2) [(3, 2), (5, 3)] := by
    refine ⟨_, 2, rfl, by simp, by simp, fun _ => ⟨w7.heap.size, 0, rfl, fun j u hu => ?_⟩⟩
    rw [Nat.zero_add, cell_of_cells (MapKept.heap_alloc w7 _).1, ← Array.getElem?_toList]
    exact hu
  have hba : Below w7.heap.size w7 (w7.alloc (.cells #[.int .i64 3, .int .i64 2, .int .i64 5, .int .i64 3] 53)) := (Below.refl _ _).alloc (Nat.le_refl _) _
  refine (same_any v7 _ _ _ _ (HR7.out.below hba) hlit).mono ?_
  rintro e w8 ⟨rfl, hb8⟩
  have hb78 : Below w7.heap.size w7 w8 := hba.trans (hb8.mono (by simp))
  have H8 := Lib.hid (And.intro (H7.out.1.below hb78) (H7.out.2.2.trans (hb78.mono H7.out.2.2.size)))
  clear hlit hba hb8 hb78 H7 HR7
  simp only [decide_true]
  go_wp2_with fail
  refine (len_any pa _ _ S4 _ H8.out.1).mono ?_
  rintro e w8' ⟨rfl, rfl⟩
  go_wp2_with fail
  refine (check_nil pa _ S4 _ H8.out.1).mono ?_
  rintro e w9 ⟨rfl, hb9⟩
  go_wp2_with fail
  go_ret
  exact ⟨rfl, H8.out.2.trans (hb9.mono H8.out.2.size)⟩
end Go.Proofs.Ytcnifhkgibopbaa
set_option linter.unusedVariables false
set_option linter.unusedSimpArgs false
namespace Go.Proofs.Ytcnifhkgibopbaa
def le (a b : D2) : Prop := a.1 < b.1 ∨ (a.1 = b.1 ∧ a.2 ≤ b.2)
def lt (a b : D2) : Prop := a.1 < b.1 ∨ (a.1 = b.1 ∧ a.2 < b.2)
theorem ahead_true {a b : D2} : aheadB a b = true ↔ lt a b := by
  unfold aheadB lt
  simp
theorem ahead_false {a b : D2} : aheadB a b = false ↔ le b a := by
  rw [← Bool.not_eq_true, ahead_true]
  unfold lt le
  omega
theorem le_trans' {a b c : D2} (h : le a b) (k : le b c) : le a c := by unfold le at *; omega
theorem le_refl' (a : D2) : le a a := by unfold le; omega
theorem lt_le {a b : D2} (h : lt a b) : le a b := by unfold le lt at *; omega
theorem le_of_not {a b : D2} (h : ¬ lt a b) : le b a := by unfold le lt at *; omega
def fn (L : List D2) (i : Nat) : D2 := L.getD i (0, 0)
theorem fn_swap {L : List D2} {i k : Nat} (hi : i < L.length) (hk : k < L.length) (j : Nat) : fn (swapL L i k) j = if j = k then fn L i else if j = i then fn L k else fn L j := by
  unfold fn
  rw [List.getD_eq_getElem?_getD, swapL_at hi hk]
  by_cases h1 : j = k
  · rw [if_pos h1, if_pos h1]; simp [hi]
  · rw [if_neg h1, if_neg h1]
    by_cases h2 : j = i
    · rw [if_pos h2, if_pos h2]; simp [hk]
    · rw [if_neg h2, if_neg h2]; simp
def HeapF (f : Nat → D2) (n : Nat) : Prop := ∀ i, 0 < i → i < n → le (f ((i - 1) / 2)) (f i)
def Heap (L : List D2) : Prop := HeapF (fn L) L.length
def HX (f : Nat → D2) (n k : Nat) : Prop := (∀ i, 0 < i → i < n → i ≠ k → le (f ((i - 1) / 2)) (f i)) ∧ (0 < k → ∀ c, c < n → 0 < c → (c - 1) / 2 = k → le (f ((k - 1) / 2)) (f c))
def HD (f : Nat → D2) (n k : Nat) : Prop := (∀ i, 0 < i → i < n → (i - 1) / 2 ≠ k → le (f ((i - 1) / 2)) (f i)) ∧ (0 < k → ∀ c, c < n → 0 < c → (c - 1) / 2 = k → le (f ((k - 1) / 2)) (f c))
theorem rise_heap (fuel : Nat) : ∀ (L : List D2) (k : Nat), k ≤ fuel → k < L.length → HX (fn L) L.length k → Heap (riseL fuel L k) := by
  induction fuel with
  | zero =>
    intro L k hf hk h
    obtain rfl : k = 0 := by omega
    exact fun i h0 hi => h.1 i h0 hi (by omega)
  | succ fuel ih =>
    intro L k hf hk h
    unfold riseL
    split
    · rename_i hc
      simp only [Bool.and_eq_true, decide_eq_true_eq, ahead_true] at hc
      obtain ⟨h0, hlt⟩ := hc
      have hp : (k - 1) / 2 < L.length := by omega
      refine ih _ _ (by omega) (by rw [swapL_length]; exact hp) ?_
      rw [swapL_length]
      refine ⟨fun i i0 hi hne => ?_, fun p0 c hc c0 hpc => ?_⟩
      · rw [fn_swap hk hp, fn_swap hk hp, if_neg hne]
        by_cases h1 : i = k
        · rw [if_pos h1, if_pos (by rw [h1])]
          exact lt_le hlt
        · rw [if_neg h1]
          by_cases h2 : (i - 1) / 2 = (k - 1) / 2
          · rw [if_pos h2]
            refine le_trans' (lt_le hlt) ?_
            have := h.1 i i0 hi h1
            rw [h2] at this
            exact this
          · rw [if_neg h2]
            by_cases h3 : (i - 1) / 2 = k
            · rw [if_pos h3]
              exact h.2 h0 i hi i0 h3
            · rw [if_neg h3]
              exact h.1 i i0 hi h1
      · rw [fn_swap hk hp, fn_swap hk hp, if_neg (by omega), if_neg (by omega), if_neg (by omega)]
        have h5 := h.1 ((k - 1) / 2) p0 hp (by omega)
        by_cases h1 : c = k
        · rw [if_pos h1]; exact h5
        · rw [if_neg h1]
          refine le_trans' h5 ?_
          have := h.1 c c0 hc h1
          rw [hpc] at this
          exact this
    · rename_i hc
      simp only [Bool.and_eq_true, decide_eq_true_eq, ahead_true, not_and] at hc
      intro i i0 hi
      by_cases h1 : i = k
      · subst h1
        exact le_of_not (hc i0)
      · exact h.1 i i0 hi h1
theorem best_spec (L : List D2) (k : Nat) (hk : k < L.length) : (bestL L k = k ∨ (bestL L k - 1) / 2 = k ∧ 0 < bestL L k ∧ lt (fn L (bestL L k)) (fn L k)) ∧ ∀ c, c < L.length → 0 < c → (c - 1) / 2 = k → le (fn L (bestL L k)) (fn L c) := by
  have step : ∀ b kid, (kid < L.length → le (fn L (bestS L b kid)) (fn L kid)) ∧ le (fn L (bestS L b kid)) (fn L b) ∧ (bestS L b kid = b ∨ bestS L b kid = kid ∧ lt (fn L kid) (fn L b)) := by
    intro b kid
    unfold bestS
    split
    · rename_i hc
      simp only [Bool.and_eq_true, decide_eq_true_eq, ahead_true] at hc
      exact ⟨fun _ => le_refl' _, lt_le hc.2, .inr ⟨rfl, hc.2⟩⟩
    · rename_i hc
      simp only [Bool.and_eq_true, decide_eq_true_eq, ahead_true, not_and] at hc
      exact ⟨fun h => le_of_not (hc h), le_refl' _, .inl rfl⟩
  obtain ⟨s1, s2, s3⟩ := step k (2 * k + 1)
  obtain ⟨t1, t2, t3⟩ := step (bestS L k (2 * k + 1)) (2 * k + 2)
  unfold bestL
  refine ⟨?_, fun c hc c0 hpc => ?_⟩
  · rcases t3 with e | ⟨e, hl⟩
    · rw [e]
      rcases s3 with e' | ⟨e', hl⟩
      · exact .inl e'
      · rw [e']; exact .inr ⟨by omega, by omega, hl⟩
    · rw [e]
      refine .inr ⟨by omega, by omega, ?_⟩
      have := s2
      unfold le lt at *
      omega
  · have : c = 2 * k + 1 ∨ c = 2 * k + 2 := by omega
    rcases this with rfl | rfl
    · exact le_trans' t2 (s1 hc)
    · exact t1 hc
theorem sink_heap (fuel : Nat) : ∀ (L : List D2) (k : Nat), L.length ≤ k + fuel → k < L.length → HD (fn L) L.length k → Heap (sinkL fuel L k) := by
  induction fuel with
  | zero => intro L k hf hk; omega
  | succ fuel ih =>
    intro L k hf hk h
    obtain ⟨hb, hm⟩ := best_spec L k hk
    have hbl := bestL_lt hk
    unfold sinkL
    split
    · rename_i he
      rw [he] at hm
      intro i i0 hi
      by_cases h1 : (i - 1) / 2 = k
      · rw [h1]; exact hm i hi i0 h1
      · exact h.1 i i0 hi h1
    · rename_i hne
      have hgt := bestL_gt hne
      rcases hb with e | ⟨hpb, hb0, hlt⟩
      · exact absurd e hne
      generalize bestL L k = b at *
      refine ih _ _ (by rw [swapL_length]; omega) (by rw [swapL_length]; exact hbl) ?_
      rw [swapL_length]
      refine ⟨fun i i0 hi hnp => ?_, fun _ c hc c0 hpc => ?_⟩
      · rw [fn_swap hk hbl, fn_swap hk hbl, if_neg hnp]
        by_cases h1 : i = b
        · rw [if_pos h1, if_pos (by rw [h1]; exact hpb)]
          exact lt_le hlt
        · rw [if_neg h1]
          by_cases h2 : i = k
          · rw [if_pos h2, if_neg (by omega), h2]
            exact h.2 (by omega) b hbl hb0 hpb
          · rw [if_neg h2]
            by_cases h3 : (i - 1) / 2 = k
            · rw [if_pos h3]
              exact hm i hi i0 h3
            · rw [if_neg h3]
              exact h.1 i i0 hi h3
      · rw [fn_swap hk hbl, fn_swap hk hbl, if_neg (by omega), if_pos hpb, if_neg (by omega), if_neg (by omega)]
        have := h.1 c c0 hc (by omega)
        rw [hpc] at this
        exact this
theorem sink_id (fuel : Nat) (L : List D2) (k : Nat) (hk : k < L.length) (h : Heap L) : sinkL fuel L k = L := by
  cases fuel with
  | zero => rfl
  | succ fuel =>
    unfold sinkL
    rw [if_pos]
    obtain ⟨hb, _⟩ := best_spec L k hk
    rcases hb with e | ⟨hpb, hb0, hlt⟩
    · exact e
    · have := h _ hb0 (bestL_lt hk)
      rw [hpb] at this
      unfold le lt at *
      omega
def HB (f : Nat → D2) (n k : Nat) : Prop := (∀ i, 0 < i → i < n → i ≠ k → (i - 1) / 2 ≠ k → le (f ((i - 1) / 2)) (f i)) ∧ (0 < k → ∀ c, c < n → 0 < c → (c - 1) / 2 = k → le (f ((k - 1) / 2)) (f c))
theorem both_heap (fuel f2 : Nat) (L : List D2) (k : Nat) (hf : k ≤ fuel) (hf2 : L.length ≤ k + f2) (hk : k < L.length) (h : HB (fn L) L.length k) : Heap (sinkL f2 (riseL fuel L k) k) := by
  by_cases hc : 0 < k ∧ lt (fn L k) (fn L ((k - 1) / 2))
  · have hx : HX (fn L) L.length k := by
      refine ⟨fun i i0 hi hne => ?_, h.2⟩
      by_cases h1 : (i - 1) / 2 = k
      · rw [h1]
        exact le_trans' (lt_le hc.2) (h.2 hc.1 i hi i0 h1)
      · exact h.1 i i0 hi hne h1
    have hh := rise_heap fuel L k hf hk hx
    rw [sink_id _ _ _ (by rw [riseL_length]; exact hk) hh]
    exact hh
  · have hr : riseL fuel L k = L := by
      cases fuel with
      | zero => rfl
      | succ fuel =>
        unfold riseL
        rw [if_neg]
        simp only [Bool.and_eq_true, decide_eq_true_eq, ahead_true]
        exact hc
    rw [hr]
    refine sink_heap f2 L k hf2 hk ⟨fun i i0 hi hnp => ?_, h.2⟩
    by_cases h1 : i = k
    · subst h1
      exact le_of_not fun hl => hc ⟨i0, hl⟩
    · exact h.1 i i0 hi h1 hnp
theorem fn_append {L : List D2} {d : D2} {i : Nat} (h : i < L.length) : fn (L ++ [d]) i = fn L i := by
  unfold fn
  rw [List.getD_eq_getElem?_getD, List.getElem?_append_left h, List.getD_eq_getElem?_getD]
theorem fn_take {L : List D2} {n i : Nat} (h : i < n) : fn (L.take n) i = fn L i := by
  unfold fn
  rw [List.getD_eq_getElem?_getD, List.getElem?_take, if_pos h, List.getD_eq_getElem?_getD]
theorem set_heap {L : List D2} (h : Heap L) (at_ id : Int) : Heap (setL L at_ id) := by
  unfold setL
  refine rise_heap _ _ _ (Nat.le_refl _) (by simp) ⟨fun i i0 hi hne => ?_, fun _ c hc c0 hpc => ?_⟩
  · have : i < L.length := by simp at hi; omega
    rw [fn_append this, fn_append (by omega)]
    exact h i i0 this
  · simp at hc; omega
theorem drop_heap {L : List D2} (h : Heap L) {k : Nat} (hk : k < L.length) : Heap (dropL L k) := by
  have hl : ((swapL L k (L.length - 1)).take (L.length - 1)).length = L.length - 1 := by rw [List.length_take, swapL_length]; omega
  have hf : ∀ j, j < L.length - 1 → fn ((swapL L k (L.length - 1)).take (L.length - 1)) j = if j = k then fn L (L.length - 1) else fn L j := by
    intro j hj
    rw [fn_take hj, fn_swap hk (by omega), if_neg (by omega)]
  unfold dropL
  dsimp only
  split
  · rename_i hkl
    refine both_heap _ _ _ _ (Nat.le_refl _) (by omega) (by omega) ⟨fun i i0 hi hne hnp => ?_, fun k0 c hc c0 hpc => ?_⟩
    · rw [hl] at hi
      rw [hf _ (by omega), hf _ hi, if_neg hne, if_neg hnp]
      exact h i i0 (by omega)
    · rw [hl] at hc
      rw [hf _ (by omega), hf _ hc, if_neg (by omega), if_neg (by omega)]
      have h1 := h k k0 (by omega)
      have h2 := h c c0 (by omega)
      rw [hpc] at h2
      exact le_trans' h1 h2
  · rename_i hkl
    intro i i0 hi
    rw [hl] at hi
    rw [hf _ (by omega), hf _ hi, if_neg (by omega), if_neg (by omega)]
    exact h i i0 (by omega)
theorem heap_root {L : List D2} (h : Heap L) : ∀ i, i < L.length → le (fn L 0) (fn L i) := by
  intro i
  induction i using Nat.strongRecOn with
  | _ i ih =>
    intro hi
    rcases Nat.eq_zero_or_pos i with h0 | h0
    · subst h0; exact le_refl' _
    · exact le_trans' (ih ((i - 1) / 2) (by omega) (by omega)) (h i h0 hi)
theorem swap_perm {L : List D2} {i k : Nat} (hi : i < L.length) (hk : k < L.length) : (swapL L i k).Perm L := by
  rw [swapL_eq hi hk]
  exact List.set_set_perm hi hk
theorem rise_perm (fuel : Nat) : ∀ (L : List D2) (k : Nat), k < L.length → (riseL fuel L k).Perm L := by
  induction fuel with
  | zero => intro L k hk; exact List.Perm.refl _
  | succ fuel ih =>
    intro L k hk
    unfold riseL
    split
    · exact (ih _ _ (by rw [swapL_length]; omega)).trans (swap_perm hk (by omega))
    · exact List.Perm.refl _
theorem sink_perm (fuel : Nat) : ∀ (L : List D2) (k : Nat), k < L.length → (sinkL fuel L k).Perm L := by
  induction fuel with
  | zero => intro L k hk; exact List.Perm.refl _
  | succ fuel ih =>
    intro L k hk
    unfold sinkL
    split
    · exact List.Perm.refl _
    · exact (ih _ _ (by rw [swapL_length]; exact bestL_lt hk)).trans (swap_perm hk (bestL_lt hk))
theorem set_perm' (L : List D2) (at_ id : Int) : (setL L at_ id).Perm (L ++ [(at_, id)]) := rise_perm _ _ _ (by simp)
theorem drop_perm {L : List D2} {k : Nat} (hk : k < L.length) : (L[k] :: dropL L k).Perm L := by
  have hs := swap_perm hk (show L.length - 1 < L.length by omega)
  have hl : ((swapL L k (L.length - 1)).take (L.length - 1)).length = L.length - 1 := by rw [List.length_take, swapL_length]; omega
  have hlast : (swapL L k (L.length - 1)) = (swapL L k (L.length - 1)).take (L.length - 1) ++ [L[k]] := by
    apply List.ext_getElem?
    intro j
    rw [List.getElem?_append, hl]
    by_cases hj : j < L.length - 1
    · rw [if_pos hj, List.getElem?_take, if_pos hj]
    · rw [if_neg hj, swapL_at hk (by omega)]
      by_cases h1 : j = L.length - 1
      · rw [if_pos h1, h1]; simp
      · rw [if_neg h1, if_neg (by omega), List.getElem?_eq_none (by omega), List.getElem?_eq_none (by simp; omega)]
  have hd : (dropL L k).Perm ((swapL L k (L.length - 1)).take (L.length - 1)) := by
    unfold dropL
    dsimp only
    split
    · rename_i h
      exact (sink_perm _ _ _ (by rw [riseL_length, hl]; exact h)).trans (rise_perm _ _ _ (by rw [hl]; exact h))
    · exact List.Perm.refl _
  refine List.Perm.trans ?_ hs
  conv => rhs; rw [hlast]
  exact ((List.Perm.cons _ hd).trans (List.perm_append_singleton _ _).symm)
theorem take_spec (fuel : Nat) : ∀ (now : Int) (L : List D2), L.length ≤ fuel → Heap L →
    ((takeL fuel now L).1 ++ (takeL fuel now L).2).Perm L ∧ (takeL fuel now L).1.Pairwise le ∧ (∀ d ∈ (takeL fuel now L).1, d.1 ≤ now) ∧ (∀ d ∈ (takeL fuel now L).2, now < d.1) ∧ Heap (takeL fuel now L).2 := by
  induction fuel with
  | zero =>
    intro now L hl h
    obtain rfl : L = [] := List.eq_nil_of_length_eq_zero (by omega)
    exact ⟨List.Perm.refl _, by simp [takeL], by simp [takeL], by simp [takeL], h⟩
  | succ fuel ih =>
    intro now L hl h
    unfold takeL
    split
    · rename_i hc
      simp only [Bool.and_eq_true, Bool.not_eq_true', decide_eq_true_eq] at hc
      have h0 : 0 < L.length := by
        cases L with
        | nil => simp at hc
        | cons d r => simp
      have hd0 : L.getD 0 (0, 0) = L[0] := getD_lt h0
      obtain ⟨i1, i2, i3, i4, i5⟩ := ih now (dropL L 0) (by rw [dropL_length h0]; omega) (drop_heap h h0)
      have hp := drop_perm h0
      refine ⟨?_, ?_, ?_, i4, i5⟩
      · rw [hd0]
        simp only [List.cons_append]
        exact (List.Perm.cons _ i1).trans hp
      · rw [List.pairwise_cons]
        refine ⟨fun d hd => ?_, i2⟩
        have hm : d ∈ L := hp.mem_iff.1 (List.mem_cons_of_mem _ (i1.mem_iff.1 (List.mem_append_left _ hd)))
        obtain ⟨j, hj, rfl⟩ := List.mem_iff_getElem.1 hm
        have := heap_root h j hj
        unfold fn at this
        rw [getD_lt hj] at this
        exact this
      · intro d hd
        rcases List.mem_cons.1 hd with rfl | hd
        · exact hc.2
        · exact i3 d hd
    · rename_i hc
      refine ⟨List.Perm.refl _, by simp, by simp, fun d hd => ?_, h⟩
      have h0 : 0 < L.length := List.length_pos_of_mem hd
      have he : L.isEmpty = false := by
        cases L with
        | nil => simp at h0
        | cons d r => rfl
      simp only [he, Bool.not_false, Bool.true_and, decide_eq_true_eq] at hc
      obtain ⟨j, hj, rfl⟩ := List.mem_iff_getElem.1 hd
      have := heap_root h j hj
      unfold fn at this
      rw [getD_lt hj] at this
      unfold le at this
      omega
theorem heap_nil : Heap [] := fun i _ hi => by simp at hi
end Go.Proofs.Ytcnifhkgibopbaa
set_option linter.unusedVariables false
set_option linter.unusedSimpArgs false
namespace Go.Proofs.Ytcnifhkgibopbaa
open Go.RowKit Go.MapKept Go.ChangeMaps
theorem when_none (pa : Nat) (id : Int) (L : List D2) (last : Int) (S : Nat → Prop) (w : World) (h : Alm w pa L last S) (hid : iok id) (hf : findL L id = none) :
    Calls Try.prog 22 #[.pointer (some ⟨pa, 0, none⟩), .int .i64 id] w fun e w' => e = .returned (.tuple #[.int .i64 0, .bool false]) ∧ w = w' := by
  obtain ⟨mb, v, m, hw, hx⟩ := h
  obtain ⟨_, a1, _, _, _, _⟩ := hw.heads
  have hrun := hw.map.lookup (int_like Try.underlying3) Try.underlying60 (zero_int w) id hid true
  rw [hx.find, hf] at hrun
  simp only [if_true, ik] at hrun
  clear hw hx hf hid
  go_enter Try.func22, Try.ntmps22
  go_wp2_with fail
  go_ret2
  exact ⟨rfl, rfl⟩
theorem when_some (pa : Nat) (id : Int) (L : List D2) (last : Int) (S : Nat → Prop) (w : World) (h : Alm w pa L last S) (hid : iok id) (k : Nat) (hf : findL L id = some k) :
    Calls Try.prog 22 #[.pointer (some ⟨pa, 0, none⟩), .int .i64 id] w fun e w' => e = .returned (.tuple #[.int .i64 (fn L k).1, .bool true]) ∧ w = w' := by
  obtain ⟨mb, v, m, hw, hx⟩ := h
  have hrun := hw.map.lookup (int_like Try.underlying3) Try.underlying60 (zero_int w) id hid true
  rw [hx.find, hf] at hrun
  simp only [if_true, ik, nk] at hrun
  obtain ⟨d, hd, _⟩ := findL_some hf
  have hk : k < L.length := (List.getElem?_eq_some_iff.1 hd).1
  obtain ⟨g, cap, rfl⟩ := hw.form hk
  obtain ⟨a0, a1, _, _, _, _⟩ := hw.heads
  obtain ⟨c0, c1, _, _⟩ := hw.cells hd
  have e : fn L k = d := by unfold fn; rw [List.getD_eq_getElem?_getD, hd]; rfl
  have hkl : (k : Int) < (L.length : Int) := by omega
  rw [e]
  clear hw hx hf hid hd e
  go_enter Try.func22, Try.ntmps22
  go_wp2_with fail
  go_ret2
  exact ⟨rfl, rfl⟩
def moveL (L : List D2) (k : Nat) (at_ : Int) : List D2 :=
  let L2 := riseL k (L.set k (at_, (fn L k).2)) k
  sinkL L2.length L2 ((findL L2 (fn L k).2).getD 0)
theorem Idx.moved {L : List D2} {m : List (Int × Nat)} (h : Idx L m) {k : Nat} (hk : k < L.length) (at_ : Int) : Idx (L.set k (at_, L[k].2)) m := by
  refine ⟨fun id i => ?_, by rw [List.length_set]; exact h.len, fun d hd => ?_, by rw [List.length_set]; exact h.small⟩
  · rw [h.get, List.getElem?_set]
    by_cases e : k = i
    · subst e
      rw [if_pos rfl, if_pos hk, List.getElem?_eq_getElem hk]
      simp
    · rw [if_neg e]
  · rcases List.mem_or_eq_of_mem_set hd with hd | rfl
    · exact h.ok d hd
    · have := h.ok _ (List.getElem_mem hk); exact this
theorem AlmRaw.stored0 {w : World} {pa mb g cap : Nat} {L : List (Int × Int)} {m : List (Int × Nat)} {last : Int} {S : Nat → Prop} (h : AlmRaw w pa mb (.slice (some ⟨g, 0, none⟩) L.length cap) L m last S) (k : Nat) (hk : k < L.length) (x : Int) :
    AlmRaw (w.setCell ⟨g, k * 2, none⟩ (.int .i64 x)) pa mb (.slice (some ⟨g, 0, none⟩) L.length cap) (L.set k (x, L[k].2)) m last S ∧ Only S w (w.setCell ⟨g, k * 2, none⟩ (.int .i64 x)) := by
  have hg := h.inS.2.2 g rfl
  refine ⟨⟨?_, ?_, ?_, h.inS, h.ne, ?_⟩, ?_⟩
  · exact heap_set_ne _ _ _ h.box (Ne.symm hg.2.1)
  · have := (h.row.stored (k * 2) (.int .i64 x)).1
    have e : (flat due L).set (k * 2) (.int .i64 x) = flat due (L.set k (x, L[k].2)) := by
      rw [← flat_due_set L k hk]
      have hc := (flat_due_at (List.getElem?_eq_getElem hk)).2
      obtain ⟨hl, hv⟩ := List.getElem?_eq_some_iff.1 hc
      apply List.ext_getElem?
      intro i
      rw [List.getElem?_set (i := k * 2 + 1)]
      by_cases e : k * 2 + 1 = i
      · subst e
        rw [if_pos rfl, if_pos (by rw [List.length_set]; exact hl), List.getElem?_set, if_neg (by omega), hc]
      · rw [if_neg e]
    rw [e] at this
    rw [List.length_set]
    exact this
  · exact h.map.of_block (Below.heap_setCell _ _ _ _ (Ne.symm hg.2.2))
  · intro k hk; simpa using h.low k hk
  · exact (Only.refl S w).setCell (.inl hg.1) _
theorem move_no (pa : Nat) (id at_ : Int) (L : List D2) (last : Int) (S : Nat → Prop) (w : World) (h : Alm w pa L last S) (hid : iok id) (hf : findL L id = none ∨ (decide (0 ≤ at_) && decide (at_ ≤ 1099511627776)) = false) :
    Calls Try.prog 23 #[.pointer (some ⟨pa, 0, none⟩), .int .i64 id, .int .i64 at_] w fun e w' => e = .returned (.bool false) ∧ w = w' := by
  obtain ⟨mb, v, m, hw, hx⟩ := h
  obtain ⟨_, a1, _, _, _, _⟩ := hw.heads
  have hrun := hw.map.lookup (int_like Try.underlying3) Try.underlying60 (zero_int w) id hid true
  rw [hx.find] at hrun
  cases hfi : findL L id with
  | none =>
    rw [hfi] at hrun
    simp only [if_true, ik] at hrun
    clear hw hx hf hid hfi
    go_enter Try.func23, Try.ntmps23
    go_wp2_with fail
    go_ret
    exact ⟨rfl, rfl⟩
  | some k =>
    rw [hfi] at hrun
    simp only [if_true, ik, nk] at hrun
    have hr : (decide (0 ≤ at_) && decide (at_ ≤ 1099511627776)) = false := by
      rcases hf with h | h
      · rw [hfi] at h; cases h
      · exact h
    have HR := Lib.hid hr
    clear hw hx hf hid hfi hr
    go_enter Try.func23, Try.ntmps23
    go_wp2_with fail
    refine (right_is at_ false HR.out _).mono ?_
    rintro e w' ⟨rfl, rfl⟩
    go_wp2_with fail
    go_ret
    exact ⟨rfl, rfl⟩
theorem find_perm {L M : List D2} (h : L.Perm M) {id : Int} {k : Nat} (hf : findL M id = some k) : ∃ j, findL L id = some j := by
  obtain ⟨d, hd, he⟩ := findL_some hf
  have hm : d ∈ L := h.mem_iff.2 (List.mem_of_getElem? hd)
  cases hj : findL L id with
  | some j => exact ⟨j, rfl⟩
  | none =>
    unfold findL at hj
    rw [List.findIdx?_eq_none_iff] at hj
    have := hj d hm
    simp [he] at this
set_option maxHeartbeats 400000 in
theorem move_yes (pa : Nat) (id at_ : Int) (L : List D2) (last : Int) (S : Nat → Prop) (w : World) (h : Alm w pa L last S) (hid : iok id) (k : Nat) (hf : findL L id = some k) (hr : (decide (0 ≤ at_) && decide (at_ ≤ 1099511627776)) = true) :
    Calls Try.prog 23 #[.pointer (some ⟨pa, 0, none⟩), .int .i64 id, .int .i64 at_] w fun e w' => e = .returned (.bool true) ∧ Alm w' pa (moveL L k at_) last S ∧ Only S w w' := by
  obtain ⟨mb, v, m, hw, hx⟩ := h
  have hrun := hw.map.lookup (int_like Try.underlying3) Try.underlying60 (zero_int w) id hid true
  rw [hx.find, hf] at hrun
  simp only [if_true, ik, nk] at hrun
  obtain ⟨d, hd, hde⟩ := findL_some hf
  have hk : k < L.length := (List.getElem?_eq_some_iff.1 hd).1
  have hdk : L[k] = d := by rw [List.getElem?_eq_getElem hk] at hd; injection hd
  have e : fn L k = d := by unfold fn; rw [List.getD_eq_getElem?_getD, hd]; rfl
  obtain ⟨g, cap, rfl⟩ := hw.form hk
  obtain ⟨a0, a1, _, _, _, _⟩ := hw.heads
  obtain ⟨c0, c1, f0, f1⟩ := hw.cells hd
  have hkl : (k : Int) < (L.length : Int) := by omega
  have HR := Lib.hid hr
  have hst := hw.stored0 k hk at_
  have hmv := hx.moved hk at_
  rw [hdk] at hst hmv
  have ha : Alm (w.setCell ⟨g, k * 2, none⟩ (.int .i64 at_)) pa (L.set k (at_, d.2)) last S := ⟨mb, _, m, hst.1, hmv⟩
  have HA := Lib.hid ha
  have HO := Lib.hid hst.2
  have HM := Lib.hid (show moveL L k at_ = sinkL (riseL k (L.set k (at_, d.2)) k).length (riseL k (L.set k (at_, d.2)) k) ((findL (riseL k (L.set k (at_, d.2)) k) d.2).getD 0) by unfold moveL; rw [e])
  have hrp : (riseL k (L.set k (at_, d.2)) k).Perm (L.set k (at_, d.2)) := rise_perm _ _ _ (by simpa using hk)
  have hf1 : ∃ j, findL (L.set k (at_, d.2)) d.2 = some j := by
    have := (hmv.get d.2 k).2 ⟨(at_, d.2), by rw [List.getElem?_set, if_pos rfl, if_pos hk], rfl⟩
    rw [hmv.find] at this
    exact ⟨k, this⟩
  obtain ⟨j1, hj1⟩ := hf1
  obtain ⟨j2, hj2⟩ := find_perm hrp hj1
  have HJ := Lib.hid hj2
  have HDE := Lib.hid hde
  have HID := Lib.hid hid
  clear hw hx hf hid hd e hr hst hmv ha hdk hrp hj1 hj2 hde
  go_enter Try.func23, Try.ntmps23
  go_wp2_with fail
  refine (right_is at_ true HR.out _).mono ?_
  rintro e w' ⟨rfl, rfl⟩
  go_wp2_with fail
  refine (rise_any pa k _ last S _ HA.out (by simpa using hk) _ rfl).mono ?_
  rintro e w2 ⟨rfl, h2, ho2⟩
  have H2 := Lib.hid h2
  have HO2 := Lib.hid ho2
  obtain ⟨mb2, v2, m2, hw2, hx2⟩ := h2
  have hrun2 := hw2.map.lookup (int_like Try.underlying3) Try.underlying60 (zero_int w2) id HID.out false
  rw [hx2.find, ← HDE.out, HJ.out, HDE.out] at hrun2
  simp only [Bool.false_eq_true, if_false, ik, nk] at hrun2
  obtain ⟨_, b1, _, _, _, _⟩ := hw2.heads
  clear hw2 hx2 ho2
  go_wp2_with fail
  refine (sink_any pa j2 _ last S _ H2.out (by obtain ⟨d', hd', _⟩ := findL_some HJ.out; exact (List.getElem?_eq_some_iff.1 hd').1) _ rfl).mono ?_
  rintro e w3 ⟨rfl, h3, ho3⟩
  go_wp2_with fail
  go_ret
  refine ⟨rfl, ?_, (HO.out.then_ HO2.out).then_ ho3⟩
  rw [HM.out, HJ.out]
  exact h3
end Go.Proofs.Ytcnifhkgibopbaa
set_option linter.unusedVariables false
set_option linter.unusedSimpArgs false
namespace Go.Proofs.Ytcnifhkgibopbaa
open Go.RowKit Go.MapKept Go.ChangeMaps
structure St (L : List D2) (last : Int) (n : Nat) : Prop where
  heap : Heap L
  ids : ∀ d ∈ L, 1 ≤ d.2 ∧ d.2 ≤ last
  ticks : ∀ d ∈ L, 0 ≤ d.1 ∧ d.1 ≤ 1099511627776
  len : L.length ≤ n
  last0 : 0 ≤ last
  last1 : last ≤ n
theorem St.nil : St [] 0 0 := ⟨heap_nil, by simp, by simp, by simp, by omega, by omega⟩
theorem St.more {L : List D2} {last : Int} {n m : Nat} (h : St L last n) (hm : n ≤ m) : St L last m := ⟨h.heap, h.ids, h.ticks, by have := h.len; omega, h.last0, by have := h.last1; omega⟩
theorem St.sub {L L' : List D2} {last : Int} {n : Nat} (h : St L last n) (hh : Heap L') (hs : ∀ d ∈ L', d ∈ L) (hl : L'.length ≤ L.length) : St L' last n :=
  ⟨hh, fun d hd => h.ids d (hs d hd), fun d hd => h.ticks d (hs d hd), by have := h.len; omega, h.last0, h.last1⟩
theorem St.set {L : List D2} {last : Int} {n : Nat} (h : St L last n) {x : Int} (hx : (decide (0 ≤ x) && decide (x ≤ 1099511627776)) = true) : St (setL L x (last + 1)) (last + 1) (n + 1) := by
  simp only [Bool.and_eq_true, decide_eq_true_eq] at hx
  have hp := set_perm' L x (last + 1)
  refine ⟨set_heap h.heap _ _, fun d hd => ?_, fun d hd => ?_, by rw [hp.length_eq]; simp; exact h.len, by have := h.last0; omega, by have := h.last1; omega⟩
  · rcases List.mem_append.1 (hp.mem_iff.1 hd) with hd | hd
    · have := h.ids d hd; omega
    · simp at hd; subst hd; have := h.last0; simp; omega
  · rcases List.mem_append.1 (hp.mem_iff.1 hd) with hd | hd
    · exact h.ticks d hd
    · simp at hd; subst hd; exact hx
theorem St.drop {L : List D2} {last : Int} {n : Nat} (h : St L last n) {k : Nat} (hk : k < L.length) : St (dropL L k) last n :=
  h.sub (drop_heap h.heap hk) (fun d hd => (drop_perm hk).mem_iff.1 (List.mem_cons_of_mem _ hd)) (by rw [dropL_length hk]; omega)
theorem St.take {L : List D2} {last : Int} {n : Nat} (h : St L last n) (now : Int) : St (takeL L.length now L).2 last n := by
  have hs := take_spec L.length now L (Nat.le_refl _) h.heap
  exact h.sub hs.2.2.2.2 (fun d hd => hs.1.mem_iff.1 (List.mem_append_right _ hd)) (by have := hs.1.length_eq; simp at this; omega)
theorem fn_set {L : List D2} {k : Nat} {d : D2} (hk : k < L.length) (i : Nat) : fn (L.set k d) i = if i = k then d else fn L i := by
  unfold fn
  rw [List.getD_eq_getElem?_getD, List.getElem?_set]
  by_cases h : k = i
  · rw [if_pos h, if_pos hk, if_pos h.symm]; rfl
  · have h' : ¬ i = k := fun e => h e.symm
    rw [if_neg h, if_neg h', List.getD_eq_getElem?_getD]
theorem move_perm {L : List D2} {k : Nat} (hk : k < L.length) (at_ : Int) (hj : ∃ j, findL (riseL k (L.set k (at_, (fn L k).2)) k) (fn L k).2 = some j) : (moveL L k at_).Perm (L.set k (at_, (fn L k).2)) := by
  obtain ⟨j, hj⟩ := hj
  unfold moveL
  dsimp only
  rw [hj]
  obtain ⟨d, hd, _⟩ := findL_some hj
  exact (sink_perm _ _ _ (List.getElem?_eq_some_iff.1 hd).1).trans (rise_perm _ _ _ (by simpa using hk))
theorem move_heap {L : List D2} (h : Heap L) {k : Nat} (hk : k < L.length) (at_ : Int) (hu : ∀ (i j : Nat) (d d' : D2), L[i]? = some d → L[j]? = some d' → d.2 = d'.2 → i = j) : Heap (moveL L k at_) := by
  obtain ⟨L1, hL1⟩ : ∃ L1, L1 = L.set k (at_, (fn L k).2) := ⟨_, rfl⟩
  have hl : L1.length = L.length := by rw [hL1]; simp
  have hB : HB (fn L1) L1.length k := by
    refine ⟨fun i i0 hi hne hnp => ?_, fun k0 c hc c0 hpc => ?_⟩
    · rw [hL1, fn_set hk, fn_set hk, if_neg hne, if_neg hnp]
      exact h i i0 (by omega)
    · rw [hL1, fn_set hk, fn_set hk, if_neg (by omega), if_neg (by omega)]
      have h1 := h k k0 hk
      have h2 := h c c0 (by omega)
      rw [hpc] at h2
      exact le_trans' h1 h2
  have hk1 : k < L1.length := by omega
  have hfn : fn L k = L[k] := getD_lt hk
  unfold moveL
  dsimp only
  rw [← hL1]
  by_cases hc : 0 < k ∧ lt (fn L1 k) (fn L1 ((k - 1) / 2))
  · have hx : HX (fn L1) L1.length k := by
      refine ⟨fun i i0 hi hne => ?_, hB.2⟩
      by_cases h1 : (i - 1) / 2 = k
      · rw [h1]
        exact le_trans' (lt_le hc.2) (hB.2 hc.1 i hi i0 h1)
      · exact hB.1 i i0 hi hne h1
    have hh := rise_heap k L1 k (Nat.le_refl _) hk1 hx
    rw [sink_id _ _ _ ?_ hh]
    · exact hh
    · cases hf : findL (riseL k L1 k) (fn L k).2 with
      | none => rw [riseL_length]; simp; omega
      | some j =>
        obtain ⟨d, hd, _⟩ := findL_some hf
        exact (List.getElem?_eq_some_iff.1 hd).1
  · have hr : riseL k L1 k = L1 := by
      cases hkk : k with
      | zero => rfl
      | succ f =>
        unfold riseL
        rw [if_neg]
        simp only [Bool.and_eq_true, decide_eq_true_eq, ahead_true]
        rw [← hkk]
        exact hc
    have hf : findL L1 (fn L k).2 = some k := by
      unfold findL
      rw [List.findIdx?_eq_some_iff_getElem]
      refine ⟨hk1, by subst hL1; simp, fun j hj => ?_⟩
      have hjl : j < L.length := by omega
      simp only [hL1, List.getElem_set, Bool.not_eq_true, beq_eq_false_iff_ne, ne_eq]
      rw [if_neg (by omega)]
      intro e
      have e : L[j].2 = L[k].2 := e.trans (congrArg Prod.snd hfn)
      have := hu j k _ _ (List.getElem?_eq_getElem hjl) (List.getElem?_eq_getElem hk) e
      omega
    rw [hr, hf]
    simp only [Option.getD_some]
    refine sink_heap _ L1 k (by omega) hk1 ⟨fun i i0 hi hnp => ?_, hB.2⟩
    by_cases h1 : i = k
    · rw [h1]
      rw [h1] at i0
      exact le_of_not fun hl => hc ⟨i0, hl⟩
    · exact hB.1 i i0 hi h1 hnp
theorem Idx.rise_find {L : List D2} {m : List (Int × Nat)} (h : Idx L m) {k : Nat} (hk : k < L.length) (at_ : Int) : ∃ j, findL (riseL k (L.set k (at_, (fn L k).2)) k) (fn L k).2 = some j := by
  have hfn : fn L k = L[k] := getD_lt hk
  have hmv := h.moved hk at_
  have := (hmv.get L[k].2 k).2 ⟨(at_, L[k].2), by rw [List.getElem?_set, if_pos rfl, if_pos hk], rfl⟩
  rw [hmv.find, ← hfn] at this
  exact find_perm (rise_perm _ _ _ (by simpa using hk)) this
theorem St.move {L : List D2} {last : Int} {n : Nat} (h : St L last n) {m : List (Int × Nat)} (hx : Idx L m) {k : Nat} (hk : k < L.length) {x : Int} (hr : (decide (0 ≤ x) && decide (x ≤ 1099511627776)) = true) : St (moveL L k x) last n := by
  simp only [Bool.and_eq_true, decide_eq_true_eq] at hr
  have hp := move_perm hk x (hx.rise_find hk x)
  have hfn : fn L k = L[k] := getD_lt hk
  have hmem : ∀ d ∈ moveL L k x, d ∈ L ∨ d = (x, L[k].2) := fun d hd => by
    have := List.mem_or_eq_of_mem_set (hp.mem_iff.1 hd)
    rw [hfn] at this
    exact this
  refine ⟨move_heap h.heap hk x fun i j d d' h1 h2 h3 => hx.uniq h1 h2 h3, fun d hd => ?_, fun d hd => ?_, by rw [hp.length_eq]; simp; exact h.len, h.last0, h.last1⟩
  · rcases hmem d hd with h1 | rfl
    · exact h.ids d h1
    · have := h.ids _ (List.getElem_mem hk); exact this
  · rcases hmem d hd with h1 | rfl
    · exact h.ticks d h1
    · exact hr
structure Ans where
  L : List D2
  last : Int
  N : Int
  is : Bool
  e : Int
  out : List D2
def doL (L : List D2) (last kind at_ id : Int) : Ans :=
  if kind = 0 then (if (decide (0 ≤ at_) && decide (at_ ≤ 1099511627776)) then ⟨setL L at_ (last + 1), last + 1, last + 1, false, 0, []⟩ else ⟨L, last, 0, false, 1, []⟩)
  else if kind = 1 then (match findL L id with | some k => ⟨dropL L k, last, 0, true, 0, []⟩ | none => ⟨L, last, 0, false, 0, []⟩)
  else if kind = 2 then (match findL L id with | some k => if (decide (0 ≤ at_) && decide (at_ ≤ 1099511627776)) then ⟨moveL L k at_, last, 0, true, 0, []⟩ else ⟨L, last, 0, false, 0, []⟩ | none => ⟨L, last, 0, false, 0, []⟩)
  else if kind = 3 then (match findL L id with | some k => ⟨L, last, (fn L k).1, true, 0, []⟩ | none => ⟨L, last, 0, false, 0, []⟩)
  else if kind = 4 then ⟨(takeL L.length at_ L).2, last, 0, false, 0, (takeL L.length at_ L).1⟩
  else ⟨L, last, 0, false, 0, []⟩
theorem heap_three (w : World) (a b c : Obj) : (((w.alloc a).alloc b).alloc c).heap[w.heap.size]? = some a ∧ (((w.alloc a).alloc b).alloc c).heap[w.heap.size + 1]? = some b ∧ (((w.alloc a).alloc b).alloc c).heap[w.heap.size + 2]? = some c :=
  ⟨heap_alloc_lt _ _ (heap_two w a b).1, heap_alloc_lt _ _ (heap_two w a b).2, by have := (MapKept.heap_alloc ((w.alloc a).alloc b) c).1; simpa using this⟩
theorem results_cell {P : Program} {fn : Func} {tmps : Array Value} {W : World} {p : Tmp} {ty : TypeId} {g : Nat} {t : TypeId} {cs : Array Value} {fr : Nat × Nat} {d : TypeDesc} (h : fn.results = #[.cell p ty]) (hp : tmps.getD p undef = .pointer (some ⟨g, 0, none⟩))
    (hg : W.heap[g]? = some (.cells cs t fr)) (hu : P.underlying ty = some d) (hd : (match d with | .struct _ | .array _ _ => true | _ => false) = true) (hi : (P.info? ty).map (·.size) = some cs.size) : (results fn tmps).run P W = .ok (.agg cs) W := by
  unfold results
  rw [h, show (#[ResultVar.cell p ty]) = [ResultVar.cell p ty].toArray from rfl, List.mapM_toArray]
  have hp' : tmps[p]?.getD undef = .pointer (some ⟨g, 0, none⟩) := by simpa using hp
  simp [List.mapM_cons, hp', asAddr, run_loadVar_row W g t ty cs fr d hg hu hd hi]
theorem ans_block {w : World} {B : Nat} {a b c d x y z u : Value} {t : TypeId} (h : w.heap[B]? = some (.cells #[a, b, c, d] t (0, 0))) :
    ((((w.setCell ⟨B, 0, none⟩ x).setCell ⟨B, 1, none⟩ y).setCell ⟨B, 2, none⟩ z).setCell ⟨B, 3, none⟩ u).heap[B]? = some (.cells #[x, y, z, u] t (0, 0)) := by
  have := heap_set_eq (i := 3) _ u (heap_set_eq (i := 2) _ z (heap_set_eq (i := 1) _ y (heap_set_eq (i := 0) w x h)))
  simpa using this
theorem ans_only {w : World} {S : Nat → Prop} {B : Nat} {x y z u : Value} (hB : S B) :
    Only S w ((((w.setCell ⟨B, 0, none⟩ x).setCell ⟨B, 1, none⟩ y).setCell ⟨B, 2, none⟩ z).setCell ⟨B, 3, none⟩ u) :=
  ((((Only.refl S w).setCell (p := ⟨B, 0, none⟩) (.inl hB) _).setCell (p := ⟨B, 1, none⟩) (.inl hB) _).setCell (p := ⟨B, 2, none⟩) (.inl hB) _).setCell (p := ⟨B, 3, none⟩) (.inl hB) _
def DoesPost (pa : Nat) (S : Nat → Prop) (w : World) (A : Ans) (e : Ending) (w' : World) : Prop :=
  ∃ v S', e = .returned (.agg #[.int .i64 A.N, .bool A.is, .int .i64 A.e, v]) ∧ w'.ownsRow 0 53 2 v A.out.length (flat due A.out) ∧ (∀ g, v.ownBlock = some g → w.heap.size ≤ g ∧ ¬ S' g) ∧
    Alm w' pa A.L A.last S' ∧ (∀ k, S' k → S k ∨ w.heap.size ≤ k) ∧ Only S w w'
def boxes (w : World) (kind at_ id : Int) : World := ((w.alloc (.cells #[.int .i64 kind, .int .i64 at_, .int .i64 id] 38)).alloc (.cells #[.int .i64 0, .bool false, .int .i64 0, .slice none 0 0] 41)).alloc (.cells #[.int .i64 0, .bool false, .int .i64 0, .slice none 0 0] 41)
theorem boxes_below (w : World) (kind at_ id : Int) : Below w.heap.size w (boxes w kind at_ id) := (((Below.refl _ w).alloc (Nat.le_refl _) _).alloc (by simp) _).alloc (by simp; omega) _
theorem boxes_size (w : World) (kind at_ id : Int) : (boxes w kind at_ id).heap.size = w.heap.size + 3 := by simp [boxes]
theorem boxes_at (w : World) (kind at_ id : Int) : (boxes w kind at_ id).heap[w.heap.size]? = some (.cells #[.int .i64 kind, .int .i64 at_, .int .i64 id] 38 (0, 0)) ∧
    (boxes w kind at_ id).heap[w.heap.size + 1]? = some (.cells #[.int .i64 0, .bool false, .int .i64 0, .slice none 0 0] 41 (0, 0)) ∧ (boxes w kind at_ id).heap[w.heap.size + 1 + 1]? = some (.cells #[.int .i64 0, .bool false, .int .i64 0, .slice none 0 0] 41 (0, 0)) := heap_three w _ _ _
structure Behind (pa : Nat) (S : Nat → Prop) (w : World) (L : List D2) (last : Int) (S2 : Nat → Prop) (w2 : World) : Prop where
  b1 : w2.heap[w.heap.size + 1]? = some (.cells #[.int .i64 0, .bool false, .int .i64 0, .slice none 0 0] 41 (0, 0))
  b2 : w2.heap[w.heap.size + 1 + 1]? = some (.cells #[.int .i64 0, .bool false, .int .i64 0, .slice none 0 0] 41 (0, 0))
  alm : Alm w2 pa L last S2
  sub : ∀ k, S2 k → S k ∨ w.heap.size + 3 ≤ k
  only : Only S w w2
  low : ∀ k, S k → k < w.heap.size
theorem Behind.mk' {pa : Nat} {S S2 : Nat → Prop} {w w2 : World} {L : List D2} {last kind at_ id : Int} (ha : Alm w2 pa L last S2) (hs : ∀ k, S2 k → S k ∨ (boxes w kind at_ id).heap.size ≤ k) (ho : Only S (boxes w kind at_ id) w2) (hl : ∀ k, S k → k < w.heap.size) : Behind pa S w L last S2 w2 :=
  ⟨ho.obj (boxes_at w kind at_ id).2.1 fun hk => by have := hl _ hk; omega, ho.obj (boxes_at w kind at_ id).2.2 fun hk => by have := hl _ hk; omega, ha, fun k hk => by have := hs k hk; rw [boxes_size] at this; exact this,
    (Only.of_below (boxes_below w kind at_ id)).then_ ho, hl⟩
theorem Behind.done {pa : Nat} {S S2 : Nat → Prop} {w w2 W : World} {L : List D2} {last : Int} (h : Behind pa S w L last S2 w2) (hW : Only (fun k => k = w.heap.size + 1 ∨ k = w.heap.size + 1 + 1) w2 W) {fnc : Func} (hfn : fnc = Try.f15) {a : Act} (had : a.defers = []) (hslot : a.tmps.getD 4 undef = .pointer (some ⟨w.heap.size + 1, 0, none⟩))
    (N : Int) (is : Bool) (e : Int) (v : Value) (hb : W.heap[w.heap.size + 1]? = some (.cells #[.int .i64 N, .bool is, .int .i64 e, v] 41 (0, 0)))
    (A : Ans) (hA : A.L = L ∧ A.last = last ∧ A.N = N ∧ A.is = is ∧ A.e = e) (hv : w2.ownsRow 0 53 2 v A.out.length (flat due A.out)) (hvs : ∀ g, v.ownBlock = some g → w.heap.size + 3 ≤ g ∧ ¬ S2 g) :
    bodyPost Try.prog fnc (DoesPost pa S w A) .ret a W := by
  subst hfn
  obtain ⟨h1, h2, h3, h4, h5⟩ := hA
  have hS2 : ∀ k, S2 k → ¬ (k = w.heap.size + 1 ∨ k = w.heap.size + 1 + 1) := fun k hk hkk => by
    rcases h.sub k hk with hs | hs
    · have := h.low k hs; omega
    · omega
  refine bodyPost_ret (v := .agg #[.int .i64 N, .bool is, .int .i64 e, v]) (results_cell rfl hslot hb Try.underlying41 rfl (by kernel_rfl)) had ?_
  refine ⟨v, S2, by rw [h3, h4, h5], hW.own hv fun g hg hk => by have := (hvs g hg).1; omega, fun g hg => ⟨by have := (hvs g hg).1; omega, (hvs g hg).2⟩, by rw [h1, h2]; exact h.alm.other hW hS2, fun k hk => ?_, h.only.trans hW fun i hi hk => by omega⟩
  rcases h.sub k hk with hs | hs
  · exact .inl hs
  · exact .inr (by omega)
set_option maxRecDepth 100000 in
set_option maxHeartbeats 400000 in
theorem does_set (pa : Nat) (at_ id : Int) (L : List D2) (last : Int) (S : Nat → Prop) (n : Nat) (w : World) (h : Alm w pa L last S) (hs : St L last n) (hn : n ≤ 1000) (hid : iok id) :
    Calls Try.prog 15 #[.pointer (some ⟨pa, 0, none⟩), .agg #[.int .i64 0, .int .i64 at_, .int .i64 id]] w (DoesPost pa S w (doL L last 0 at_ id)) := by
  have HH := Lib.hid (h.below (boxes_below w 0 at_ id))
  have hlow : ∀ k, S k → k < w.heap.size := by obtain ⟨_, _, _, hw, _⟩ := h; exact hw.low
  have HLOW := Lib.hid hlow
  have HST := Lib.hid hs
  clear h hlow hs
  cases hr : (decide (0 ≤ at_) && decide (at_ ≤ 1099511627776)) with
  | true =>
    have HA : Hid (doL L last 0 at_ id = ⟨setL L at_ (last + 1), last + 1, last + 1, false, 0, []⟩) := Lib.hid (by unfold doL; rw [if_pos rfl, hr]; rfl)
    have HR := Lib.hid hr
    clear hr
    go_enter Try.func15, Try.ntmps15
    go_wp2_with fail
    refine (set_yes pa at_ L last S _ HH.out HR.out (by have := HST.out.len; omega) HST.out.last0 (by have := HST.out.last1; omega) (fun d hd => (HST.out.ids d hd).2)).mono ?_
    rintro e w2 ⟨rfl, S2, h2, hs2, ho2⟩
    have hbe := Behind.mk' h2 hs2 ho2 HLOW.out
    have c1 := cell_of_cells hbe.b1
    have c2 := cell_of_cells hbe.b2
    have c10 := c1 0
    have c11 := c1 1
    have c12 := c1 2
    have c13 := c1 3
    have c20 := c2 0
    have c21 := c2 1
    have c22 := c2 2
    have c23 := c2 3
    have f1 := free_of_cells hbe.b1
    have f2 := free_of_cells hbe.b2
    simp only [List.getElem?_toArray, List.getElem?_cons_zero, List.getElem?_cons_succ] at c10 c11 c12 c13 c20 c21 c22 c23
    have HBE := Lib.hid hbe
    clear h2 hs2 ho2 c1 c2 hbe
    go_wp2_with fail
    refine HBE.out.done (((Only.refl (fun k => k = w.heap.size + 1 ∨ k = w.heap.size + 1 + 1) w2).setCell (p := ⟨w.heap.size + 1 + 1, 0, none⟩) (.inl (.inr rfl)) _).setCell (p := ⟨w.heap.size + 1 + 1, 2, none⟩) (.inl (.inr rfl)) _ |>.then_ (ans_only (.inl rfl))) rfl rfl rfl (last + 1) false 0 (.slice none 0 0)
      (ans_block (heap_set_ne _ _ _ (heap_set_ne _ _ _ HBE.out.b1 (by simp)) (by simp))) _ (by rw [HA.out]; exact ⟨rfl, rfl, rfl, rfl, rfl⟩) (by rw [HA.out]; exact World.ownsRow_nil _ _ _ _) (fun g hg => by simp [Value.ownBlock] at hg)
  | false =>
    have HA : Hid (doL L last 0 at_ id = ⟨L, last, 0, false, 1, []⟩) := Lib.hid (by unfold doL; rw [if_pos rfl, hr]; rfl)
    have HR := Lib.hid hr
    clear hr
    go_enter Try.func15, Try.ntmps15
    go_wp2_with fail
    refine (set_arg pa at_ _ HR.out).mono ?_
    rintro e w2 ⟨rfl, hw2⟩
    have hbe : Behind pa S w L last S w2 := hw2 ▸ Behind.mk' (kind := 0) (at_ := at_) (id := id) HH.out (fun k hk => .inl hk) (Only.refl _ _) HLOW.out
    have c1 := cell_of_cells hbe.b1
    have c2 := cell_of_cells hbe.b2
    have c10 := c1 0
    have c11 := c1 1
    have c12 := c1 2
    have c13 := c1 3
    have c20 := c2 0
    have c21 := c2 1
    have c22 := c2 2
    have c23 := c2 3
    have f1 := free_of_cells hbe.b1
    have f2 := free_of_cells hbe.b2
    simp only [List.getElem?_toArray, List.getElem?_cons_zero, List.getElem?_cons_succ] at c10 c11 c12 c13 c20 c21 c22 c23
    have HBE := Lib.hid hbe
    clear c1 c2 hbe
    clear hw2
    go_wp2_with fail
    refine HBE.out.done (((Only.refl (fun k => k = w.heap.size + 1 ∨ k = w.heap.size + 1 + 1) w2).setCell (p := ⟨w.heap.size + 1 + 1, 0, none⟩) (.inl (.inr rfl)) _).setCell (p := ⟨w.heap.size + 1 + 1, 2, none⟩) (.inl (.inr rfl)) _ |>.then_ (ans_only (.inl rfl))) rfl rfl rfl 0 false 1 (.slice none 0 0)
      (ans_block (heap_set_ne _ _ _ (heap_set_ne _ _ _ HBE.out.b1 (by simp)) (by simp))) _ (by rw [HA.out]; exact ⟨rfl, rfl, rfl, rfl, rfl⟩) (by rw [HA.out]; exact World.ownsRow_nil _ _ _ _) (fun g hg => by simp [Value.ownBlock] at hg)
set_option maxRecDepth 100000 in
set_option maxHeartbeats 400000 in
theorem does_cancel (pa : Nat) (at_ id : Int) (L : List D2) (last : Int) (S : Nat → Prop) (n : Nat) (w : World) (h : Alm w pa L last S) (hs : St L last n) (hn : n ≤ 1000) (hid : iok id) :
    Calls Try.prog 15 #[.pointer (some ⟨pa, 0, none⟩), .agg #[.int .i64 1, .int .i64 at_, .int .i64 id]] w (DoesPost pa S w (doL L last 1 at_ id)) := by
  have HH := Lib.hid (h.below (boxes_below w 1 at_ id))
  have hlow : ∀ k, S k → k < w.heap.size := by obtain ⟨_, _, _, hw, _⟩ := h; exact hw.low
  have HLOW := Lib.hid hlow
  have HST := Lib.hid hs
  have HID := Lib.hid hid
  clear h hlow hs hid
  cases hf : findL L id with
  | some k =>
    have HA : Hid (doL L last 1 at_ id = ⟨dropL L k, last, 0, true, 0, []⟩) := Lib.hid (by unfold doL; rw [if_neg (by omega), if_pos rfl, hf])
    have HF := Lib.hid hf
    clear hf
    go_enter Try.func15, Try.ntmps15
    go_wp2_with fail
    refine (cancel_some pa id L last S _ HH.out HID.out k HF.out).mono ?_
    rintro e w2 ⟨rfl, h2, ho2⟩
    have hbe := Behind.mk' h2 (fun k hk => .inl hk) ho2 HLOW.out
    have c1 := cell_of_cells hbe.b1
    have c2 := cell_of_cells hbe.b2
    have c10 := c1 0
    have c11 := c1 1
    have c12 := c1 2
    have c13 := c1 3
    have c20 := c2 0
    have c21 := c2 1
    have c22 := c2 2
    have c23 := c2 3
    have f1 := free_of_cells hbe.b1
    have f2 := free_of_cells hbe.b2
    simp only [List.getElem?_toArray, List.getElem?_cons_zero, List.getElem?_cons_succ] at c10 c11 c12 c13 c20 c21 c22 c23
    have HBE := Lib.hid hbe
    clear c1 c2 hbe
    clear h2 ho2
    go_wp2_with fail
    refine HBE.out.done ((Only.refl (fun k => k = w.heap.size + 1 ∨ k = w.heap.size + 1 + 1) w2).setCell (p := ⟨w.heap.size + 1 + 1, 1, none⟩) (.inl (.inr rfl)) _ |>.then_ (ans_only (.inl rfl))) rfl rfl rfl 0 true 0 (.slice none 0 0)
      (ans_block (heap_set_ne _ _ _ HBE.out.b1 (by simp))) _ (by rw [HA.out]; exact ⟨rfl, rfl, rfl, rfl, rfl⟩) (by rw [HA.out]; exact World.ownsRow_nil _ _ _ _) (fun g hg => by simp [Value.ownBlock] at hg)
  | none =>
    have HA : Hid (doL L last 1 at_ id = ⟨L, last, 0, false, 0, []⟩) := Lib.hid (by unfold doL; rw [if_neg (by omega), if_pos rfl, hf])
    have HF := Lib.hid hf
    clear hf
    go_enter Try.func15, Try.ntmps15
    go_wp2_with fail
    refine (cancel_none pa id L last S _ HH.out HID.out HF.out).mono ?_
    rintro e w2 ⟨rfl, hw2⟩
    have hbe : Behind pa S w L last S w2 := hw2 ▸ Behind.mk' (kind := 1) (at_ := at_) (id := id) HH.out (fun k hk => .inl hk) (Only.refl _ _) HLOW.out
    have c1 := cell_of_cells hbe.b1
    have c2 := cell_of_cells hbe.b2
    have c10 := c1 0
    have c11 := c1 1
    have c12 := c1 2
    have c13 := c1 3
    have c20 := c2 0
    have c21 := c2 1
    have c22 := c2 2
    have c23 := c2 3
    have f1 := free_of_cells hbe.b1
    have f2 := free_of_cells hbe.b2
    simp only [List.getElem?_toArray, List.getElem?_cons_zero, List.getElem?_cons_succ] at c10 c11 c12 c13 c20 c21 c22 c23
    have HBE := Lib.hid hbe
    clear c1 c2 hbe
    clear hw2
    go_wp2_with fail
    refine HBE.out.done ((Only.refl (fun k => k = w.heap.size + 1 ∨ k = w.heap.size + 1 + 1) w2).setCell (p := ⟨w.heap.size + 1 + 1, 1, none⟩) (.inl (.inr rfl)) _ |>.then_ (ans_only (.inl rfl))) rfl rfl rfl 0 false 0 (.slice none 0 0)
      (ans_block (heap_set_ne _ _ _ HBE.out.b1 (by simp))) _ (by rw [HA.out]; exact ⟨rfl, rfl, rfl, rfl, rfl⟩) (by rw [HA.out]; exact World.ownsRow_nil _ _ _ _) (fun g hg => by simp [Value.ownBlock] at hg)
set_option maxRecDepth 100000 in
set_option maxHeartbeats 400000 in
theorem does_move (pa : Nat) (at_ id : Int) (L : List D2) (last : Int) (S : Nat → Prop) (n : Nat) (w : World) (h : Alm w pa L last S) (hs : St L last n) (hn : n ≤ 1000) (hid : iok id) :
    Calls Try.prog 15 #[.pointer (some ⟨pa, 0, none⟩), .agg #[.int .i64 2, .int .i64 at_, .int .i64 id]] w (DoesPost pa S w (doL L last 2 at_ id)) := by
  have HH := Lib.hid (h.below (boxes_below w 2 at_ id))
  have hlow : ∀ k, S k → k < w.heap.size := by obtain ⟨_, _, _, hw, _⟩ := h; exact hw.low
  have HLOW := Lib.hid hlow
  have HST := Lib.hid hs
  have HID := Lib.hid hid
  clear h hlow hs hid
  by_cases hf : (∃ k, findL L id = some k) ∧ (decide (0 ≤ at_) && decide (at_ ≤ 1099511627776)) = true
  · obtain ⟨⟨k, hf⟩, hr⟩ := hf
    have HA : Hid (doL L last 2 at_ id = ⟨moveL L k at_, last, 0, true, 0, []⟩) := Lib.hid (by unfold doL; rw [if_neg (by omega), if_neg (by omega), if_pos rfl, hf, hr]; rfl)
    have HF := Lib.hid (And.intro hf hr)
    clear hf hr
    go_enter Try.func15, Try.ntmps15
    go_wp2_with fail
    refine (move_yes pa id at_ L last S _ HH.out HID.out k HF.out.1 HF.out.2).mono ?_
    rintro e w2 ⟨rfl, h2, ho2⟩
    have hbe := Behind.mk' h2 (fun k hk => .inl hk) ho2 HLOW.out
    have c1 := cell_of_cells hbe.b1
    have c2 := cell_of_cells hbe.b2
    have c10 := c1 0
    have c11 := c1 1
    have c12 := c1 2
    have c13 := c1 3
    have c20 := c2 0
    have c21 := c2 1
    have c22 := c2 2
    have c23 := c2 3
    have f1 := free_of_cells hbe.b1
    have f2 := free_of_cells hbe.b2
    simp only [List.getElem?_toArray, List.getElem?_cons_zero, List.getElem?_cons_succ] at c10 c11 c12 c13 c20 c21 c22 c23
    have HBE := Lib.hid hbe
    clear c1 c2 hbe
    clear h2 ho2
    go_wp2_with fail
    refine HBE.out.done ((Only.refl (fun k => k = w.heap.size + 1 ∨ k = w.heap.size + 1 + 1) w2).setCell (p := ⟨w.heap.size + 1 + 1, 1, none⟩) (.inl (.inr rfl)) _ |>.then_ (ans_only (.inl rfl))) rfl rfl rfl 0 true 0 (.slice none 0 0)
      (ans_block (heap_set_ne _ _ _ HBE.out.b1 (by simp))) _ (by rw [HA.out]; exact ⟨rfl, rfl, rfl, rfl, rfl⟩) (by rw [HA.out]; exact World.ownsRow_nil _ _ _ _) (fun g hg => by simp [Value.ownBlock] at hg)
  · have HA : Hid (doL L last 2 at_ id = ⟨L, last, 0, false, 0, []⟩) := Lib.hid (by
      unfold doL
      rw [if_neg (by omega), if_neg (by omega), if_pos rfl]
      cases hk : findL L id with
      | none => rfl
      | some k =>
        have : (decide (0 ≤ at_) && decide (at_ ≤ 1099511627776)) = false := by
          cases hr : (decide (0 ≤ at_) && decide (at_ ≤ 1099511627776)) with
          | false => rfl
          | true => exact absurd ⟨⟨k, hk⟩, hr⟩ hf
        simp only [this]
        rfl)
    have hf' : findL L id = none ∨ (decide (0 ≤ at_) && decide (at_ ≤ 1099511627776)) = false := by
      cases hk : findL L id with
      | none => exact .inl rfl
      | some k =>
        cases hr : (decide (0 ≤ at_) && decide (at_ ≤ 1099511627776)) with
        | false => exact .inr rfl
        | true => exact absurd ⟨⟨k, hk⟩, hr⟩ hf
    have HF := Lib.hid hf'
    clear hf hf'
    go_enter Try.func15, Try.ntmps15
    go_wp2_with fail
    refine (move_no pa id at_ L last S _ HH.out HID.out HF.out).mono ?_
    rintro e w2 ⟨rfl, hw2⟩
    have hbe : Behind pa S w L last S w2 := hw2 ▸ Behind.mk' (kind := 2) (at_ := at_) (id := id) HH.out (fun k hk => .inl hk) (Only.refl _ _) HLOW.out
    have c1 := cell_of_cells hbe.b1
    have c2 := cell_of_cells hbe.b2
    have c10 := c1 0
    have c11 := c1 1
    have c12 := c1 2
    have c13 := c1 3
    have c20 := c2 0
    have c21 := c2 1
    have c22 := c2 2
    have c23 := c2 3
    have f1 := free_of_cells hbe.b1
    have f2 := free_of_cells hbe.b2
    simp only [List.getElem?_toArray, List.getElem?_cons_zero, List.getElem?_cons_succ] at c10 c11 c12 c13 c20 c21 c22 c23
    have HBE := Lib.hid hbe
    clear c1 c2 hbe
    clear hw2
    go_wp2_with fail
    refine HBE.out.done ((Only.refl (fun k => k = w.heap.size + 1 ∨ k = w.heap.size + 1 + 1) w2).setCell (p := ⟨w.heap.size + 1 + 1, 1, none⟩) (.inl (.inr rfl)) _ |>.then_ (ans_only (.inl rfl))) rfl rfl rfl 0 false 0 (.slice none 0 0)
      (ans_block (heap_set_ne _ _ _ HBE.out.b1 (by simp))) _ (by rw [HA.out]; exact ⟨rfl, rfl, rfl, rfl, rfl⟩) (by rw [HA.out]; exact World.ownsRow_nil _ _ _ _) (fun g hg => by simp [Value.ownBlock] at hg)
set_option maxRecDepth 100000 in
set_option maxHeartbeats 400000 in
theorem does_when (pa : Nat) (at_ id : Int) (L : List D2) (last : Int) (S : Nat → Prop) (n : Nat) (w : World) (h : Alm w pa L last S) (hs : St L last n) (hn : n ≤ 1000) (hid : iok id) :
    Calls Try.prog 15 #[.pointer (some ⟨pa, 0, none⟩), .agg #[.int .i64 3, .int .i64 at_, .int .i64 id]] w (DoesPost pa S w (doL L last 3 at_ id)) := by
  have HH := Lib.hid (h.below (boxes_below w 3 at_ id))
  have hlow : ∀ k, S k → k < w.heap.size := by obtain ⟨_, _, _, hw, _⟩ := h; exact hw.low
  have HLOW := Lib.hid hlow
  have HST := Lib.hid hs
  have HID := Lib.hid hid
  clear h hlow hs hid
  cases hf : findL L id with
  | some k =>
    have HA : Hid (doL L last 3 at_ id = ⟨L, last, (fn L k).1, true, 0, []⟩) := Lib.hid (by unfold doL; rw [if_neg (by omega), if_neg (by omega), if_neg (by omega), if_pos rfl, hf])
    have HF := Lib.hid hf
    clear hf
    go_enter Try.func15, Try.ntmps15
    go_wp2_with fail
    refine (when_some pa id L last S _ HH.out HID.out k HF.out).mono ?_
    rintro e w2 ⟨rfl, hw2⟩
    have hbe : Behind pa S w L last S w2 := hw2 ▸ Behind.mk' (kind := 3) (at_ := at_) (id := id) HH.out (fun k hk => .inl hk) (Only.refl _ _) HLOW.out
    have c1 := cell_of_cells hbe.b1
    have c2 := cell_of_cells hbe.b2
    have c10 := c1 0
    have c11 := c1 1
    have c12 := c1 2
    have c13 := c1 3
    have c20 := c2 0
    have c21 := c2 1
    have c22 := c2 2
    have c23 := c2 3
    have f1 := free_of_cells hbe.b1
    have f2 := free_of_cells hbe.b2
    simp only [List.getElem?_toArray, List.getElem?_cons_zero, List.getElem?_cons_succ] at c10 c11 c12 c13 c20 c21 c22 c23
    have HBE := Lib.hid hbe
    clear c1 c2 hbe
    clear hw2
    go_wp2_with fail
    refine HBE.out.done (((Only.refl (fun k => k = w.heap.size + 1 ∨ k = w.heap.size + 1 + 1) w2).setCell (p := ⟨w.heap.size + 1 + 1, 0, none⟩) (.inl (.inr rfl)) _).setCell (p := ⟨w.heap.size + 1 + 1, 1, none⟩) (.inl (.inr rfl)) _ |>.then_ (ans_only (.inl rfl))) rfl rfl rfl (fn L k).1 true 0 (.slice none 0 0)
      (ans_block (heap_set_ne _ _ _ (heap_set_ne _ _ _ HBE.out.b1 (by simp)) (by simp))) _ (by rw [HA.out]; exact ⟨rfl, rfl, rfl, rfl, rfl⟩) (by rw [HA.out]; exact World.ownsRow_nil _ _ _ _) (fun g hg => by simp [Value.ownBlock] at hg)
  | none =>
    have HA : Hid (doL L last 3 at_ id = ⟨L, last, 0, false, 0, []⟩) := Lib.hid (by unfold doL; rw [if_neg (by omega), if_neg (by omega), if_neg (by omega), if_pos rfl, hf])
    have HF := Lib.hid hf
    clear hf
    go_enter Try.func15, Try.ntmps15
    go_wp2_with fail
    refine (when_none pa id L last S _ HH.out HID.out HF.out).mono ?_
    rintro e w2 ⟨rfl, hw2⟩
    have hbe : Behind pa S w L last S w2 := hw2 ▸ Behind.mk' (kind := 3) (at_ := at_) (id := id) HH.out (fun k hk => .inl hk) (Only.refl _ _) HLOW.out
    have c1 := cell_of_cells hbe.b1
    have c2 := cell_of_cells hbe.b2
    have c10 := c1 0
    have c11 := c1 1
    have c12 := c1 2
    have c13 := c1 3
    have c20 := c2 0
    have c21 := c2 1
    have c22 := c2 2
    have c23 := c2 3
    have f1 := free_of_cells hbe.b1
    have f2 := free_of_cells hbe.b2
    simp only [List.getElem?_toArray, List.getElem?_cons_zero, List.getElem?_cons_succ] at c10 c11 c12 c13 c20 c21 c22 c23
    have HBE := Lib.hid hbe
    clear c1 c2 hbe
    clear hw2
    go_wp2_with fail
    refine HBE.out.done (((Only.refl (fun k => k = w.heap.size + 1 ∨ k = w.heap.size + 1 + 1) w2).setCell (p := ⟨w.heap.size + 1 + 1, 0, none⟩) (.inl (.inr rfl)) _).setCell (p := ⟨w.heap.size + 1 + 1, 1, none⟩) (.inl (.inr rfl)) _ |>.then_ (ans_only (.inl rfl))) rfl rfl rfl 0 false 0 (.slice none 0 0)
      (ans_block (heap_set_ne _ _ _ (heap_set_ne _ _ _ HBE.out.b1 (by simp)) (by simp))) _ (by rw [HA.out]; exact ⟨rfl, rfl, rfl, rfl, rfl⟩) (by rw [HA.out]; exact World.ownsRow_nil _ _ _ _) (fun g hg => by simp [Value.ownBlock] at hg)
set_option maxRecDepth 100000 in
set_option maxHeartbeats 400000 in
theorem does_take (pa : Nat) (at_ id : Int) (L : List D2) (last : Int) (S : Nat → Prop) (n : Nat) (w : World) (h : Alm w pa L last S) (hs : St L last n) (hn : n ≤ 1000) (hid : iok id) :
    Calls Try.prog 15 #[.pointer (some ⟨pa, 0, none⟩), .agg #[.int .i64 4, .int .i64 at_, .int .i64 id]] w (DoesPost pa S w (doL L last 4 at_ id)) := by
  have HH := Lib.hid (h.below (boxes_below w 4 at_ id))
  have hlow : ∀ k, S k → k < w.heap.size := by obtain ⟨_, _, _, hw, _⟩ := h; exact hw.low
  have HLOW := Lib.hid hlow
  have HST := Lib.hid hs
  have HID := Lib.hid hid
  clear h hlow hs hid
  have HA : Hid (doL L last 4 at_ id = ⟨(takeL L.length at_ L).2, last, 0, false, 0, (takeL L.length at_ L).1⟩) := Lib.hid (by unfold doL; rw [if_neg (by omega), if_neg (by omega), if_neg (by omega), if_neg (by omega), if_pos rfl])
  have hspec := take_spec L.length at_ L (Nat.le_refl _) HST.out.heap
  have hol : (takeL L.length at_ L).1.length ≤ 1000 := by have e1 := hspec.1.length_eq; have e2 := HST.out.len; rw [List.length_append] at e1; omega
  have HOL := Lib.hid hol
  clear hspec hol
  go_enter Try.func15, Try.ntmps15
  go_wp2_with fail
  refine (take_any pa at_ L last S _ HH.out).mono ?_
  rintro e w1 ⟨v1, rfl, hown1, hne1, h1, ho1⟩
  have HT := Lib.hid (And.intro h1 ho1)
  have HRD := Lib.hid (Rd.of_own due_length hown1)
  clear hown1 hne1 h1 ho1
  go_wp2_with fail
  refine (rows_any v1 _ _ HRD.out (by have := HOL.out; omega)).mono ?_
  rintro e w2 ⟨v2, rfl, hown2, hne2, hb2⟩
  obtain ⟨A2, c2', hv2⟩ : ∃ A c, v2 = .slice A (takeL L.length at_ L).1.length c := by
    rcases hown2.2 with ⟨rfl, h0⟩ | ⟨g, cap, cur, rfl, _⟩
    · exact ⟨none, 0, by rw [h0]⟩
    · exact ⟨_, cap, rfl⟩
  subst hv2
  have hsz1 : w.heap.size + 3 ≤ w1.heap.size := by have h3 := HT.out.2.size; rw [boxes_size] at h3; exact h3
  have hbe : Behind pa S w (takeL L.length at_ L).2 last S w2 := Behind.mk' (kind := 4) (at_ := at_) (id := id) (HT.out.1.below hb2) (fun k hk => .inl hk) (HT.out.2.then_ (Only.of_below hb2)) HLOW.out
  have HOWN := Lib.hid (And.intro hown2 (And.intro hne2 hsz1))
  clear hown2 hne2 hb2 hsz1
  have c1 := cell_of_cells hbe.b1
  have c2 := cell_of_cells hbe.b2
  have c10 := c1 0
  have c11 := c1 1
  have c12 := c1 2
  have c13 := c1 3
  have c20 := c2 0
  have c21 := c2 1
  have c22 := c2 2
  have c23 := c2 3
  have f1 := free_of_cells hbe.b1
  have f2 := free_of_cells hbe.b2
  simp only [List.getElem?_toArray, List.getElem?_cons_zero, List.getElem?_cons_succ] at c10 c11 c12 c13 c20 c21 c22 c23
  have HBE := Lib.hid hbe
  clear c1 c2 hbe
  go_wp2_with fail
  refine HBE.out.done ((Only.refl (fun k => k = w.heap.size + 1 ∨ k = w.heap.size + 1 + 1) w2).setCell (p := ⟨w.heap.size + 1 + 1, 3, none⟩) (.inl (.inr rfl)) _ |>.then_ (ans_only (.inl rfl))) rfl rfl rfl 0 false 0 (.slice A2 (takeL L.length at_ L).1.length c2')
    (ans_block (heap_set_ne _ _ _ HBE.out.b1 (by simp))) _ (by rw [HA.out]; exact ⟨rfl, rfl, rfl, rfl, rfl⟩) (by rw [HA.out]; exact HOWN.out.1) (fun g hg => by have := HOWN.out.2.1 g hg; have := HOWN.out.2.2; exact ⟨by omega, fun hk => by have := HLOW.out g hk; omega⟩)
set_option maxRecDepth 100000 in
set_option maxHeartbeats 400000 in
theorem does_else (pa : Nat) (kind at_ id : Int) (L : List D2) (last : Int) (S : Nat → Prop) (n : Nat) (w : World) (h : Alm w pa L last S) (hs : St L last n) (hn : n ≤ 1000) (hid : iok id) (hk : ¬ (0 ≤ kind ∧ kind ≤ 4)) :
    Calls Try.prog 15 #[.pointer (some ⟨pa, 0, none⟩), .agg #[.int .i64 kind, .int .i64 at_, .int .i64 id]] w (DoesPost pa S w (doL L last kind at_ id)) := by
  have HH := Lib.hid (h.below (boxes_below w kind at_ id))
  have hlow : ∀ k, S k → k < w.heap.size := by obtain ⟨_, _, _, hw, _⟩ := h; exact hw.low
  have HLOW := Lib.hid hlow
  have HST := Lib.hid hs
  have HID := Lib.hid hid
  clear h hlow hs hid
  have HA : Hid (doL L last kind at_ id = ⟨L, last, 0, false, 0, []⟩) := Lib.hid (by unfold doL; rw [if_neg (by omega), if_neg (by omega), if_neg (by omega), if_neg (by omega), if_neg (by omega)])
  have k0 : ((kind : Int) == 0) = false := beq_eq_false_iff_ne.2 (by omega)
  have k1 : ((kind : Int) == 1) = false := beq_eq_false_iff_ne.2 (by omega)
  have k2 : ((kind : Int) == 2) = false := beq_eq_false_iff_ne.2 (by omega)
  have k3 : ((kind : Int) == 3) = false := beq_eq_false_iff_ne.2 (by omega)
  have k4 : ((kind : Int) == 4) = false := beq_eq_false_iff_ne.2 (by omega)
  clear hk
  go_enter Try.func15, Try.ntmps15
  go_wp2_with fail
  have hbe : Behind pa S w L last S (boxes w kind at_ id) := Behind.mk' (kind := kind) (at_ := at_) (id := id) HH.out (fun k hk => .inl hk) (Only.refl _ _) HLOW.out
  refine hbe.done (W := boxes w kind at_ id) (Only.refl _ _) rfl rfl rfl 0 false 0 (.slice none 0 0) hbe.b1 _ (by rw [HA.out]; exact ⟨rfl, rfl, rfl, rfl, rfl⟩) (by rw [HA.out]; exact World.ownsRow_nil _ _ _ _) (fun g hg => by simp [Value.ownBlock] at hg)
theorem does_any (pa : Nat) (kind at_ id : Int) (L : List D2) (last : Int) (S : Nat → Prop) (n : Nat) (w : World) (h : Alm w pa L last S) (hs : St L last n) (hn : n ≤ 1000) (hid : iok id) :
    Calls Try.prog 15 #[.pointer (some ⟨pa, 0, none⟩), .agg #[.int .i64 kind, .int .i64 at_, .int .i64 id]] w (DoesPost pa S w (doL L last kind at_ id)) := by
  by_cases hk : 0 ≤ kind ∧ kind ≤ 4
  · have : kind = 0 ∨ kind = 1 ∨ kind = 2 ∨ kind = 3 ∨ kind = 4 := by omega
    rcases this with rfl | rfl | rfl | rfl | rfl
    · exact does_set pa at_ id L last S n w h hs hn hid
    · exact does_cancel pa at_ id L last S n w h hs hn hid
    · exact does_move pa at_ id L last S n w h hs hn hid
    · exact does_when pa at_ id L last S n w h hs hn hid
    · exact does_take pa at_ id L last S n w h hs hn hid
  · exact does_else pa kind at_ id L last S n w h hs hn hid hk
end Go.Proofs.Ytcnifhkgibopbaa
set_option linter.unusedVariables false
set_option linter.unusedSimpArgs false
namespace Go.Proofs.Ytcnifhkgibopbaa
open Go.RowKit Go.MapKept Go.ChangeMaps
abbrev O3 := Int × Int × Int
def op3 (o : O3) : List Value := [.int .i64 o.1, .int .i64 o.2.1, .int .i64 o.2.2]
theorem op3_length (o : O3) : (op3 o).length = 3 := rfl
theorem Rd.op_at {w : World} {v : Value} {L : List O3} (h : Rd op3 w v L) {k : Nat} {o : O3} (hk : L[k]? = some o) : ∃ b p c, v = .slice (some ⟨b, p, none⟩) L.length c ∧ w.cell? ⟨b, p + k * 3, none⟩ = some (.int .i64 o.1) ∧ w.cell? ⟨b, p + k * 3 + 1, none⟩ = some (.int .i64 o.2.1) ∧ w.cell? ⟨b, p + k * 3 + 2, none⟩ = some (.int .i64 o.2.2) := by
  obtain ⟨A, c, rfl, h1, h2, h3⟩ := h
  obtain ⟨b, p, rfl, hc⟩ := h3 (by have := (List.getElem?_eq_some_iff.1 hk).1; omega)
  have g := fun j hj => flat_at op3_length L k o j hk hj
  exact ⟨b, p, c, rfl, by have := hc (k * 3 + 0) _ (by rw [g 0 (by omega)]; rfl); simpa using this, by have := hc (k * 3 + 1) _ (by rw [g 1 (by omega)]; rfl); rw [Nat.add_assoc]; exact this, by have := hc (k * 3 + 2) _ (by rw [g 2 (by omega)]; rfl); rw [Nat.add_assoc]; exact this⟩
theorem Alm.idx {w : World} {pa : Nat} {L : List D2} {last : Int} {S : Nat → Prop} (h : Alm w pa L last S) : ∃ m, Idx L m := by
  obtain ⟨_, _, m, _, hx⟩ := h; exact ⟨m, hx⟩
theorem St.do_ {L : List D2} {last : Int} {n : Nat} (h : St L last n) (hx : ∃ m, Idx L m) (kind at_ id : Int) : St (doL L last kind at_ id).L (doL L last kind at_ id).last (n + 1) := by
  obtain ⟨m, hx⟩ := hx
  unfold doL
  split
  · split
    · rename_i hr; exact h.set hr
    · exact h.more (by omega)
  · split
    · cases hf : findL L id with
      | none => exact h.more (by omega)
      | some k =>
        obtain ⟨d, hd, _⟩ := findL_some hf
        exact (h.drop (List.getElem?_eq_some_iff.1 hd).1).more (by omega)
    · split
      · cases hf : findL L id with
        | none => exact h.more (by omega)
        | some k =>
          obtain ⟨d, hd, _⟩ := findL_some hf
          simp only
          split
          · rename_i hr; exact (h.move hx (List.getElem?_eq_some_iff.1 hd).1 hr).more (by omega)
          · exact h.more (by omega)
      · split
        · cases hf : findL L id with
          | none => exact h.more (by omega)
          | some k => exact h.more (by omega)
        · split
          · exact (h.take at_).more (by omega)
          · exact h.more (by omega)
theorem opn_op : Opn Try.prog 38 op3 (fun _ o => iok o.1 ∧ iok o.2.1 ∧ iok o.2.2) := by
  refine opn_struct1 Try.underlying38 ?_
  intro H enc w base sp held n cs xs hlen hf
  rw [show Try.prog.cellsOf 38 = 3 by kernel_rfl] at hlen
  have hi : Try.prog.cellsOf 3 = 1 := by kernel_rfl
  match cs, hlen with
  | [c0, c1, c2], _ =>
    obtain ⟨y0, h0⟩ := hf 0 _ rfl
    obtain ⟨y1, h1⟩ := hf 1 _ rfl
    obtain ⟨y2, h2⟩ := hf 2 _ rfl
    simp [hi] at h0 h1 h2
    obtain ⟨a, e0, w0⟩ := opn_int Try.underlying3 H enc w base sp held n _ _ h0
    obtain ⟨b, e1, w1⟩ := opn_int Try.underlying3 H enc w base sp held n _ _ h1
    obtain ⟨c, e2, w2⟩ := opn_int Try.underlying3 H enc w base sp held n _ _ h2
    injection e0 with e0
    injection e1 with e1
    injection e2 with e2
    subst e0 e1 e2
    exact ⟨(a, b, c), rfl, w0, w1, w2⟩
theorem opn_ops : Opn Try.prog 36 (fun a : Value × List O3 => [a.1]) (fun w a => Rd op3 w a.1 a.2 ∧ ∀ x ∈ a.2, iok x.1 ∧ iok x.2.1 ∧ iok x.2.2) :=
  opn_slice Try.underlying36 (by kernel_rfl) op3_length (by omega) opn_op
end Go.Proofs.Ytcnifhkgibopbaa
set_option linter.unusedVariables false
set_option linter.unusedSimpArgs false
namespace Go.Proofs.Ytcnifhkgibopbaa
open Go.RowKit Go.MapKept Go.ChangeMaps
def CheckR (w : World) (n : Nat) (jv : Value) (wr : World) : Prop := ∃ j : Nat, jv = .int .i64 j ∧ j ≤ n ∧ Below w.heap.size w wr
theorem find_self {L : List D2} {m : List (Int × Nat)} (h : Idx L m) {j : Nat} {d : D2} (hj : L[j]? = some d) : findL L d.2 = some j := by
  rw [← h.find]
  exact (h.get d.2 j).2 ⟨d, hj, rfl⟩
set_option maxRecDepth 100000 in
set_option maxHeartbeats 1600000 in
theorem check_any (pa : Nat) (L : List D2) (last : Int) (S : Nat → Prop) (w : World) (h : Alm w pa L last S) (hh : Heap L) :
    Calls Try.prog 21 #[.pointer (some ⟨pa, 0, none⟩)] w fun e w' => e = .returned (.bool true) ∧ Below w.heap.size w w' := by
  cases hL : L with
  | nil => subst hL; exact check_nil pa last S w h
  | cons d0 r0 =>
    have hpos : 0 < L.length := by rw [hL]; simp
    clear hL
    obtain ⟨mb, v, m, hw, hx⟩ := h
    obtain ⟨g, cap, rfl⟩ := hw.form hpos
    obtain ⟨a0, _, _, _, _, _⟩ := hw.heads
    have HW := Lib.hid hw
    have HX := Lib.hid hx
    have HH := Lib.hid hh
    have hsm := hx.small
    have lpa := lt_of_heap hw.box
    have lg := hw.low g (hw.inS.2.2 g rfl).1
    clear hw hx hh
    go_enter Try.func21, Try.ntmps21
    go_wp2_with fail
    go_loopw [12] (fun jv wr => CheckR w L.length jv wr) (fun jv _ => L.length - (intOf jv).toNat)
    case atStart => exact ⟨0, rfl, Nat.zero_le _, Below.refl _ w⟩
    case round =>
      obtain ⟨j, rfl, hj, hb⟩ := hrel
      have HB := Lib.hid hb
      clear hb
      have HR := Lib.hid (HW.out.other (S' := fun _ => False) (Only.of_below HB.out) fun _ _ x => x)
      by_cases hjl : j < L.length
      · rcases Nat.eq_zero_or_pos j with h00 | hj0
        · subst h00
          rw [show ((0 : Nat) : Int) = 0 from rfl]
          obtain ⟨d, hd⟩ : ∃ d, L[0]? = some d := ⟨_, List.getElem?_eq_getElem hjl⟩
          have q1 : (0 : Int) < (L.length : Int) := by omega
          obtain ⟨c0, c1, _, _⟩ := HR.out.cells hd
          have HD := Lib.hid hd
          clear hd
          go_wp2_with fail
          have ha1 := HR.out.alloc (Obj.cells #[Value.int IntKind.i64 d.fst, Value.int IntKind.i64 d.snd] 33)
          have hz := heap_alloc wr (Obj.cells #[Value.int IntKind.i64 d.fst, Value.int IntKind.i64 d.snd] 33)
          have b0 := cell_of_cells hz.1 0
          have b1 := cell_of_cells hz.1 1
          have hb1 := HB.out.alloc HB.out.size (Obj.cells #[Value.int IntKind.i64 d.fst, Value.int IntKind.i64 d.snd] 33)
          simp only [List.getElem?_toArray, List.getElem?_cons_zero, List.getElem?_cons_succ] at b0 b1
          generalize wr.alloc (Obj.cells #[Value.int IntKind.i64 d.fst, Value.int IntKind.i64 d.snd] 33) = W1 at ha1 b0 b1 hb1 ⊢
          clear hz
          generalize wr.heap.size = B at b0 b1 ⊢
          have hok : iok d.2 := HX.out.ok d (List.mem_of_getElem? HD.out)
          have hrun : ∀ W', W'.heap = W1.heap → (Instr.lookup 60 (.map (some mb)) (.int .i64 d.2) true).run Try.prog W' = .ok (.tuple #[.int .i64 0, .bool true]) W' := by
            intro W' hW'
            have hm : GMap Try.prog 3 ik iok nk W' mb m := ha1.map.of_block (by rw [hW'])
            have := hm.lookup (int_like Try.underlying3) Try.underlying60 (zero_int W') d.2 hok true
            rw [HX.out.find, find_self HX.out HD.out] at this
            simpa [ik, nk] using this
          have r1 := hrun W1 rfl
          have r2 := hrun W1.drew rfl
          have HA1 := Lib.hid ha1
          have HB1 := Lib.hid hb1
          obtain ⟨h0, h1, _, _, _, _⟩ := ha1.heads
          clear hrun hok ha1 hb1 c0 c1
          go_region
          go_wp2_with fail
          skip
          clear r1 r2 h1
          go_region
          all_goals
            go_wp2_with fail
            go_roundw
            case measure => simp [intOf]; omega
            · exact ⟨1, by simp, by omega, by first | exact HB1.out.drew.drew | exact HB1.out.drew⟩
        · have hj13 : (j : Int) ≤ 4096 := by omega
          obtain ⟨d, hd⟩ : ∃ d, L[j]? = some d := ⟨_, List.getElem?_eq_getElem hjl⟩
          have q1 : (j : Int) < (L.length : Int) := by omega
          obtain ⟨c0, c1, _, _⟩ := HR.out.cells hd
          have HD := Lib.hid hd
          clear hd
          go_wp2_with fail
          have ha1 := HR.out.alloc (Obj.cells #[Value.int IntKind.i64 d.fst, Value.int IntKind.i64 d.snd] 33)
          have hz := heap_alloc wr (Obj.cells #[Value.int IntKind.i64 d.fst, Value.int IntKind.i64 d.snd] 33)
          have b0 := cell_of_cells hz.1 0
          have b1 := cell_of_cells hz.1 1
          have hb1 := HB.out.alloc HB.out.size (Obj.cells #[Value.int IntKind.i64 d.fst, Value.int IntKind.i64 d.snd] 33)
          simp only [List.getElem?_toArray, List.getElem?_cons_zero, List.getElem?_cons_succ] at b0 b1
          generalize wr.alloc (Obj.cells #[Value.int IntKind.i64 d.fst, Value.int IntKind.i64 d.snd] 33) = W1 at ha1 b0 b1 hb1 ⊢
          clear hz
          generalize wr.heap.size = B at b0 b1 ⊢
          have hok : iok d.2 := HX.out.ok d (List.mem_of_getElem? HD.out)
          have hrun : ∀ W', W'.heap = W1.heap → (Instr.lookup 60 (.map (some mb)) (.int .i64 d.2) true).run Try.prog W' = .ok (.tuple #[.int .i64 j, .bool true]) W' := by
            intro W' hW'
            have hm : GMap Try.prog 3 ik iok nk W' mb m := ha1.map.of_block (by rw [hW'])
            have := hm.lookup (int_like Try.underlying3) Try.underlying60 (zero_int W') d.2 hok true
            rw [HX.out.find, find_self HX.out HD.out] at this
            simpa [ik, nk] using this
          have r1 := hrun W1 rfl
          have r2 := hrun W1.drew rfl
          have HA1 := Lib.hid ha1
          have HB1 := Lib.hid hb1
          obtain ⟨h0, h1, _, _, _, _⟩ := ha1.heads
          clear hrun hok ha1 hb1 c0 c1
          go_region
          go_wp2_with fail
          obtain ⟨i, hi0⟩ : ∃ i, j = i + 1 := ⟨j - 1, by omega⟩
          obtain ⟨p, hp⟩ : ∃ p, p = i / 2 := ⟨_, rfl⟩
          have hi : p < L.length := by omega
          obtain ⟨dp, hdp⟩ : ∃ dp, L[p]? = some dp := ⟨_, List.getElem?_eq_getElem hi⟩
          obtain ⟨c0, c1, _, _⟩ := HA1.out.cells hdp
          have hle : aheadB d dp = false := by
            rw [ahead_false]
            have := HH.out j hj0 hjl
            have e1 : fn L j = d := by unfold fn; rw [List.getD_eq_getElem?_getD, HD.out]; rfl
            have e2 : fn L ((j - 1) / 2) = dp := by rw [show (j - 1) / 2 = p by omega]; unfold fn; rw [List.getD_eq_getElem?_getD, hdp]; rfl
            rw [e1, e2] at this
            exact this
          have HLE := Lib.hid hle
          have g0 : (0 : Int) ≤ (j : Int) := by omega
          have e3 : (j : Int) - 1 = (i : Int) := by omega
          have g2 : (0 : Int) ≤ (p : Int) := by omega
          have g3 : (p : Int) < (L.length : Int) := by omega
          have e4 : (i : Int) / 2 = (p : Int) := by omega
          have e5 : Int.tdiv (i : Int) 2 = (p : Int) := by rw [Int.tdiv_eq_ediv_of_nonneg (by omega)]; exact e4
          have ewi : IntKind.i64.wrap (i : Int) = (i : Int) := IntWalk.i64_in _ (by omega)
          have ewp : IntKind.i64.wrap (p : Int) = (p : Int) := IntWalk.i64_in _ (by omega)
          have ewq : IntKind.i64.wrap ((i : Int) / 2) = (p : Int) := by rw [e4]; exact ewp
          have ewr : IntKind.i64.wrap ((j : Int) - 1) = (i : Int) := by rw [e3]; exact ewi
          have e6 : Int.tdiv ((j : Int) - 1) 2 = (p : Int) := by rw [e3]; exact e5
          clear hi0 hp hdp hle r1 r2 h1
          go_region_held3 (fun W => W.cell? ⟨pa, 0, none⟩ = some (.slice (some ⟨g, 0, none⟩) L.length cap) ∧ W.cell? ⟨B, 0, none⟩ = some (.int .i64 d.1) ∧ W.cell? ⟨B, 1, none⟩ = some (.int .i64 d.2) ∧
              W.cell? ⟨g, p * 2, none⟩ = some (.int .i64 dp.1) ∧ W.cell? ⟨g, p * 2 + 1, none⟩ = some (.int .i64 dp.2))
            (first | go_keep | exact ⟨cell_later hb2 h0, cell_later hb2 b0, cell_later hb2 b1, cell_later hb2 c0, cell_later hb2 c1⟩)
            (first | (go_at_call 39; refine (ahead_is d dp _ HLE.out _).mono ?_; rintro e W2 ⟨rfl, hb2⟩))
          all_goals
            go_wp2_with fail
            go_roundw
            case measure => simp [intOf]; omega
            · refine ⟨j + 1, by simp, by omega, ?_⟩
              first
              | exact HB1.out.drew.trans ((below_of_drew hb2).mono HB1.out.size)
              | exact HB1.out.trans ((below_of_drew hb2).mono HB1.out.size)
      · have q1 : ¬ (j : Int) < (L.length : Int) := by omega
        have hlen : ∀ (w' : World), w'.heap = wr.heap → (Builtin.len_ #[60] 3 #[.map (some mb)]).run Try.prog w' = .ok (.int .i64 L.length) w' := by
          intro w' hw'
          have hm : GMap Try.prog 3 ik iok nk w' mb m := HR.out.map.of_block (by rw [hw'])
          have := hm.len (ty := 3) Try.underlying60
          rw [HX.out.len] at this
          exact this
        have l1 := hlen wr.drew rfl
        have l2 := hlen wr rfl
        obtain ⟨h0, h1, _, _, _, _⟩ := HR.out.heads
        clear hlen
        go_wp2_with fail
        go_region
        all_goals
          go_wp2_with fail
          go_ret
          first
          | exact ⟨by simp, HB.out.drew⟩
          | exact ⟨by simp, HB.out⟩
end Go.Proofs.Ytcnifhkgibopbaa
set_option linter.unusedVariables false
set_option linter.unusedSimpArgs false
namespace Go.Proofs.Ytcnifhkgibopbaa
open Go.RowKit Go.MapKept Go.ChangeMaps
def tickOf (L : List D2) (id : Int) : Option Int := (findL L id).map fun k => (fn L k).1
def Uq (L : List D2) : Prop := ∀ d ∈ L, ∀ d' ∈ L, d.2 = d'.2 → d = d'
theorem Idx.uq {L : List D2} {m : List (Int × Nat)} (h : Idx L m) : Uq L := by
  intro d hd d' hd' he
  obtain ⟨i, hi⟩ := List.getElem?_of_mem hd
  obtain ⟨j, hj⟩ := List.getElem?_of_mem hd'
  have := h.uniq hi hj he
  subst this
  rw [hi] at hj
  exact Option.some.inj hj
theorem Alm.uq {w : World} {pa : Nat} {L : List D2} {last : Int} {S : Nat → Prop} (h : Alm w pa L last S) : Uq L := by
  obtain ⟨m, hx⟩ := h.idx
  exact hx.uq
theorem fn_of {L : List D2} {k : Nat} {d : D2} (h : L[k]? = some d) : fn L k = d := by unfold fn; rw [List.getD_eq_getElem?_getD, h]; rfl
theorem find_none {L : List D2} {id : Int} (h : findL L id = none) : ∀ d ∈ L, d.2 ≠ id := by
  intro d hd he
  unfold findL at h
  rw [List.findIdx?_eq_none_iff] at h
  have := h d hd
  simp [he] at this
theorem tick_iff {L : List D2} (h : Uq L) (id t : Int) : tickOf L id = some t ↔ (t, id) ∈ L := by
  unfold tickOf
  cases hf : findL L id with
  | none =>
    simp only [Option.map_none]
    constructor
    · intro h; cases h
    · intro hm; exact absurd rfl (find_none hf _ hm)
  | some k =>
    obtain ⟨d, hd, he⟩ := findL_some hf
    have hm : d ∈ L := List.mem_of_getElem? hd
    rw [Option.map_some, fn_of hd]
    constructor
    · intro h; have := Option.some.inj h; subst this; rw [← he]; exact hm
    · intro hm2
      have := h _ hm _ hm2 he
      rw [this]
end Go.Proofs.Ytcnifhkgibopbaa
