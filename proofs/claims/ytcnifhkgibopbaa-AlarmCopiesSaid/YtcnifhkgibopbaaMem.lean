/- Small laws on memory: which blocks may have turned ('Only'), maps entry by entry ('GMap'), rows of structs ('Row'). -/
import Derived.WalkKit
import Derived.WalkSpells
import Derived.WalkLawsBesides
import Derived.BigQuiet
import Derived.Deep.QuietTactic
import Derived.Maps.Own
import Derived.Maps.AppendAt
import Derived.Laws.CopyOwn
import Derived.Deep.AppendLies
import Derived.MapKept
import Derived.Lib.Hide
import Derived.ScopeJumps
set_option linter.unusedVariables false
set_option linter.unusedSimpArgs false
namespace Go.Proofs.Ytcnifhkgibopbaa
open Go.RowKit Go.MapKept Go.ChangeMaps

/-! ### Which blocks may have turned -/
/-- From w to w' no block that was there has turned but those in S. -/
structure Only (S : Nat → Prop) (w w' : World) : Prop where
  os : w'.os = w.os
  tape : w'.tape = w.tape
  output : w'.output = w.output
  size : w.heap.size ≤ w'.heap.size
  block : ∀ k, k < w.heap.size → ¬ S k → w'.heap[k]? = w.heap[k]?

theorem Only.refl (S : Nat → Prop) (w : World) : Only S w w := ⟨rfl, rfl, rfl, Nat.le_refl _, fun _ _ _ => rfl⟩
theorem Only.drew {S : Nat → Prop} {w w' : World} (h : Only S w w') : Only S w w'.drew := ⟨h.os, h.tape, h.output, h.size, h.block⟩
theorem Only.drewN {S : Nat → Prop} {w w' : World} (h : Only S w w') (n : Nat) : Only S w (w'.drewN n) := ⟨h.os, h.tape, h.output, h.size, h.block⟩
theorem Only.mono {S S' : Nat → Prop} {w w' : World} (h : Only S w w') (hs : ∀ k, k < w.heap.size → S k → S' k) : Only S' w w' :=
  ⟨h.os, h.tape, h.output, h.size, fun k hk hn => h.block k hk fun hk' => hn (hs k hk hk')⟩
/-- Two steps: the second may also turn what the first has made. -/
theorem Only.trans {S S' : Nat → Prop} {a b c : World} (h : Only S a b) (k : Only S' b c) (hs : ∀ i, i < a.heap.size → S' i → S i) : Only S a c :=
  ⟨k.os.trans h.os, k.tape.trans h.tape, k.output.trans h.output, Nat.le_trans h.size k.size, fun i hi hn =>
    (k.block i (Nat.lt_of_lt_of_le hi h.size) fun hk => hn (hs i hi hk)).trans (h.block i hi hn)⟩
theorem Only.then_ {S : Nat → Prop} {a b c : World} (h : Only S a b) (k : Only S b c) : Only S a c := h.trans k fun _ _ x => x
theorem Only.alloc {S : Nat → Prop} {a w : World} (h : Only S a w) (o : Obj) : Only S a (w.alloc o) :=
  h.trans (S' := fun _ => False) ⟨rfl, rfl, rfl, by simp, fun k hk _ => Below.heap_alloc _ _ _ hk⟩ fun _ _ x => x.elim
theorem Only.setCell {S : Nat → Prop} {a w : World} (h : Only S a w) {p : Addr} (hp : S p.block ∨ a.heap.size ≤ p.block) (u : Value) : Only S a (w.setCell p u) :=
  h.trans (S' := fun k => k = p.block) ⟨rfl, rfl, rfl, by simp, fun k hk hn => Below.heap_setCell _ _ _ _ hn⟩ fun i hi e => by
    subst e
    rcases hp with hp | hp
    · exact hp
    · omega
theorem Only.grown {S : Nat → Prop} {a w w' : World} {row : Option Nat} (h : Only S a w) (hg : w.grownBy w' row) (hr : ∀ k, row = some k → S k ∨ a.heap.size ≤ k) : Only S a w' :=
  h.trans (S' := fun k => row = some k) ⟨hg.os, hg.tape, hg.output, hg.size, fun k hk hn => hg.block k hk fun e => hn e.symm⟩ fun i hi e => by
    rcases hr i e with hp | hp
    · exact hp
    · omega
theorem Only.of_below {S : Nat → Prop} {w w' : World} (h : Below w.heap.size w w') : Only S w w' := ⟨h.os, h.tape, h.output, h.size, fun k hk _ => h.block k hk⟩
theorem Only.below {S : Nat → Prop} {B : Nat} {w w' : World} (h : Only S w w') (hB : B ≤ w.heap.size) (hs : ∀ k, S k → B ≤ k) : Below B w w' :=
  ⟨h.os, h.tape, h.output, h.size, fun k hk => h.block k (Nat.lt_of_lt_of_le hk hB) fun hk' => by have := hs k hk'; omega⟩
theorem Only.none_below {w w' : World} (h : Only (fun _ => False) w w') : Below w.heap.size w w' := h.below (Nat.le_refl _) fun _ x => x.elim
/-- 'Only S' handed on: a Below that began earlier. -/
theorem Below.only {S : Nat → Prop} {B : Nat} {a w w' : World} (hb : Below B a w) (h : Only S w w') (hB : B ≤ w.heap.size) (hs : ∀ k, S k → B ≤ k) : Below B a w' :=
  hb.trans (h.below hB hs)
theorem Only.cell {S : Nat → Prop} {w w' : World} (h : Only S w w') {a : Addr} {v : Value} (hc : w.cell? a = some v) (hs : ¬ S a.block) : w'.cell? a = some v :=
  (World.cell?_of_block (h.block a.block (World.block_lt_of_cell? w a hc) hs)).trans hc
theorem lt_of_heap {w : World} {b : Nat} {o : Obj} (h : w.heap[b]? = some o) : b < w.heap.size := (Array.getElem?_eq_some_iff.1 h).1
theorem Only.obj {S : Nat → Prop} {w w' : World} (h : Only S w w') {b : Nat} {o : Obj} (hc : w.heap[b]? = some o) (hs : ¬ S b) : w'.heap[b]? = some o :=
  (h.block b (lt_of_heap hc) hs).trans hc
theorem Only.own {S : Nat → Prop} {w w' : World} (h : Only S w w') {base : Nat} {e : TypeId} {size : Nat} {v : Value} {n : Nat} {xs : List Value} (hc : w.ownsRow base e size v n xs) (hs : ∀ g, v.ownBlock = some g → ¬ S g) : w'.ownsRow base e size v n xs := by
  refine ⟨hc.1, ?_⟩
  rcases hc.2 with hn | ⟨g, cap, cur, rfl, hb, hgg, rest⟩
  · exact .inl hn
  · exact .inr ⟨g, cap, cur, rfl, hb, h.obj hgg (hs g rfl), rest⟩

theorem heap_alloc_lt (w : World) (o : Obj) {b : Nat} {x : Obj} (h : w.heap[b]? = some x) : (w.alloc o).heap[b]? = some x := by
  rw [Below.heap_alloc _ _ _ (lt_of_heap h)]; exact h
theorem heap_two (w : World) (a b : Obj) : ((w.alloc a).alloc b).heap[w.heap.size]? = some a ∧ ((w.alloc a).alloc b).heap[w.heap.size + 1]? = some b :=
  ⟨heap_alloc_lt _ _ (MapKept.heap_alloc w a).1, by have := (MapKept.heap_alloc (w.alloc a) b).1; simpa using this⟩
theorem heap_set_ne (w : World) (a : Addr) (v : Value) {b : Nat} {x : Obj} (h : w.heap[b]? = some x) (hne : b ≠ a.block) : (w.setCell a v).heap[b]? = some x := by
  rw [Below.heap_setCell _ _ _ _ hne]; exact h
theorem heap_set_eq (w : World) {b i : Nat} (v : Value) {c : Array Value} {e : TypeId} {f : Nat × Nat} (h : w.heap[b]? = some (.cells c e f)) : (w.setCell ⟨b, i, none⟩ v).heap[b]? = some (.cells (c.setIfInBounds i v) e f) := by
  simp [World.setCell, Array.getElem?_modify, h]
theorem cell_of_cells {w : World} {b : Nat} {c : Array Value} {e : TypeId} (h : w.heap[b]? = some (.cells c e (0, 0))) (i : Nat) : w.cell? ⟨b, i, none⟩ = c[i]? := by
  simp [World.cell?, h]
theorem free_of_cells {w : World} {b : Nat} {c : Array Value} {e : TypeId} (h : w.heap[b]? = some (.cells c e (0, 0))) (i : Nat) : w.frozen? ⟨b, i, none⟩ = false := by
  simp [World.frozen?, h]

/-! ### Maps, entry by entry -/
section
variable {κ α : Type}
def mget [DecidableEq κ] (m : List (κ × α)) (x : κ) : Option α := (m.find? fun p => p.1 == x).map (·.2)
def mput [DecidableEq κ] (m : List (κ × α)) (x : κ) (v : α) : List (κ × α) := if m.any (fun p => p.1 == x) then m.map (fun p => if p.1 = x then (x, v) else p) else m ++ [(x, v)]
def mdel [DecidableEq κ] (m : List (κ × α)) (x : κ) : List (κ × α) := m.filter fun p => !(p.1 == x)

/-- Block b of w is a map that holds the entries m; keys read by kf, values by vf. -/
def GMap (P : Program) (kt : TypeId) (kf : κ → Value) (ok : κ → Prop) (vf : α → Value) (w : World) (b : Nat) (m : List (κ × α)) : Prop :=
  ∃ es clock, w.heap[b]? = some (.map es clock) ∧ es.toList.map (fun x => (x.key, x.val)) = m.map (fun p => (kf p.1, vf p.2)) ∧ Stamped es clock ∧ (∀ p ∈ m, ok p.1)

/-- What the laws ask of a key's type. -/
structure KeyLike (P : Program) (kt : TypeId) (kf : κ → Value) (ok : κ → Prop) : Prop where
  keyed : Maps.Keyed P kt
  read : ∀ x, ok x → ∃ l, keyOf P kt (kf x) = some l
  inj : ∀ x y, kf x = kf y → x = y

variable {P : Program} {kt : TypeId} {kf : κ → Value} {ok : κ → Prop} {vf : α → Value} {w : World} {b : Nat} {m : List (κ × α)}

theorem GMap.lt (h : GMap P kt kf ok vf w b m) : b < w.heap.size := by
  obtain ⟨es, clock, hb, _⟩ := h
  exact lt_of_heap hb
theorem GMap.of_block {w' : World} (h : GMap P kt kf ok vf w b m) (e : w'.heap[b]? = w.heap[b]?) : GMap P kt kf ok vf w' b m := by
  obtain ⟨es, clock, hb, r⟩ := h
  exact ⟨es, clock, e.trans hb, r⟩
theorem GMap.only {S : Nat → Prop} {w' : World} (h : GMap P kt kf ok vf w b m) (ho : Only S w w') (hs : ¬ S b) : GMap P kt kf ok vf w' b m := h.of_block (ho.block b h.lt hs)
theorem GMap.alloc (h : GMap P kt kf ok vf w b m) (o : Obj) : GMap P kt kf ok vf (w.alloc o) b m := h.of_block (Below.heap_alloc _ _ _ h.lt)
theorem GMap.drew (h : GMap P kt kf ok vf w b m) : GMap P kt kf ok vf w.drew b m := h
theorem GMap.made (w : World) : GMap P kt kf ok vf (w.alloc (.map #[] 0)) w.heap.size ([] : List (κ × α)) :=
  ⟨#[], 0, (MapKept.heap_alloc w _).1, rfl, stamped_empty 0, by simp⟩
theorem GMap.oks (h : GMap P kt kf ok vf w b m) : ∀ p ∈ m, ok p.1 := by
  obtain ⟨es, clock, hb, r⟩ := h
  exact r.2.2

theorem entry_at {es : List MapEntry} (he : es.map (fun x => (x.key, x.val)) = m.map (fun p => (kf p.1, vf p.2))) (j : Nat) {x : MapEntry} (hx : es[j]? = some x) : ∃ p, m[j]? = some p ∧ x.key = kf p.1 ∧ x.val = vf p.2 := by
  have h := congrArg (fun l => l[j]?) he
  simp only [List.getElem?_map, hx, Option.map_some] at h
  cases hm : m[j]? with
  | none => rw [hm] at h; cases h
  | some p =>
    rw [hm] at h
    simp only [Option.map_some, Option.some.injEq, Prod.mk.injEq] at h
    exact ⟨p, rfl, h.1, h.2⟩

theorem nodup_of (K : KeyLike P kt kf ok) {es : Array MapEntry} {clock : Nat} (he : es.toList.map (fun x => (x.key, x.val)) = m.map (fun p => (kf p.1, vf p.2))) (hs : Stamped es clock) : (m.map (·.1)).Nodup := by
  have h1 := ((stamped_iff es clock).1 hs).2.2
  have h2 : (es.toList.map (fun x => (x.key, x.val))).Pairwise (fun p q => p.1 ≠ q.1) := by rw [List.pairwise_map]; exact h1
  rw [he, List.pairwise_map] at h2
  show (m.map (·.1)).Pairwise (· ≠ ·)
  rw [List.pairwise_map]
  exact h2.imp fun h e => h (by simp only []; rw [e])

theorem GMap.nodup (K : KeyLike P kt kf ok) (h : GMap P kt kf ok vf w b m) : (m.map (·.1)).Nodup := by
  obtain ⟨es, clock, hb, he, hs, _⟩ := h
  exact nodup_of K he hs

/-- The find of the model, said of m. -/
theorem find_of (K : KeyLike P kt kf ok) {es : Array MapEntry} (he : es.toList.map (fun x => (x.key, x.val)) = m.map (fun p => (kf p.1, vf p.2))) (hok : ∀ p ∈ m, ok p.1) (w : World) (x : κ) (hx : ok x) :
    ((Instr.findKey kt (kf x) es.toList).run P w = .ok none w ∧ (∀ p ∈ m, p.1 ≠ x) ∧ ∀ e ∈ es.toList, e.key ≠ kf x) ∨
    ∃ j e v, (Instr.findKey kt (kf x) es.toList).run P w = .ok (some (j, vf v)) w ∧ es.toList[j]? = some e ∧ e.key = kf x ∧ e.val = vf v ∧ m[j]? = some (x, v) := by
  obtain ⟨l, hl⟩ := K.read x hx
  have hes : ∀ e ∈ es.toList, ∃ l, keyOf P kt e.key = some l := by
    intro e h
    obtain ⟨j, hj⟩ := List.mem_iff_getElem?.1 h
    obtain ⟨p, hp, h1, _⟩ := entry_at he j hj
    rw [h1]
    exact K.read _ (hok p (List.mem_of_getElem? hp))
  rcases K.keyed.find w hl es.toList hes with ⟨h1, h2⟩ | ⟨j, e, h1, h2, h3⟩
  · refine .inl ⟨h1, fun p hp ex => ?_, h2⟩
    have : (kf p.1, vf p.2) ∈ es.toList.map (fun x => (x.key, x.val)) := by rw [he]; exact List.mem_map.2 ⟨p, hp, rfl⟩
    obtain ⟨e, h, hee⟩ := List.mem_map.1 this
    simp only [Prod.mk.injEq] at hee
    exact h2 e h (by rw [hee.1, ex])
  · obtain ⟨p, hp, h4, h5⟩ := entry_at he j h2
    have : p.1 = x := K.inj _ _ (by rw [← h4, h3])
    refine .inr ⟨j, e, p.2, by rw [← h5]; exact h1, h2, h3, h5, ?_⟩
    rw [hp, ← this]

section
variable [DecidableEq κ]
theorem mget_none {x : κ} (h : ∀ p ∈ m, p.1 ≠ x) : mget m x = none := by
  unfold mget
  rw [List.find?_eq_none.2 (by intro p hp; simpa using h p hp)]; rfl
theorem mget_some {x : κ} {v : α} {j : Nat} (hn : (m.map (·.1)).Nodup) (h : m[j]? = some (x, v)) : mget m x = some v := by
  unfold mget
  induction m generalizing j with
  | nil => simp at h
  | cons p r ih =>
    rw [List.find?_cons]
    by_cases hp : p.1 = x
    · simp only [hp, beq_self_eq_true]
      cases j with
      | zero => simp at h; rw [h]; rfl
      | succ j =>
        simp only [List.getElem?_cons_succ] at h
        simp only [List.map_cons, List.nodup_cons] at hn
        exact absurd (List.mem_map.2 ⟨(x, v), List.mem_of_getElem? h, hp.symm⟩) hn.1
    · have : (p.1 == x) = false := by simpa using hp
      simp only [this]
      cases j with
      | zero => simp at h; exact absurd (by rw [h]) hp
      | succ j =>
        simp only [List.map_cons, List.nodup_cons] at hn
        exact ih hn.2 (by simpa using h)
theorem mput_none {x : κ} {v : α} (h : ∀ p ∈ m, p.1 ≠ x) : mput m x v = m ++ [(x, v)] := by
  unfold mput
  rw [if_neg]
  simp only [List.any_eq_true, not_exists, not_and]
  intro p hp; simpa using h p hp
theorem mput_some {x : κ} {v v0 : α} {j : Nat} (hn : (m.map (·.1)).Nodup) (h : m[j]? = some (x, v0)) : mput m x v = m.set j (x, v) := by
  unfold mput
  rw [if_pos (by simp only [List.any_eq_true]; exact ⟨_, List.mem_of_getElem? h, by simp⟩)]
  apply List.ext_getElem?
  intro i
  rw [List.getElem?_map, List.getElem?_set]
  have hj : j < m.length := (List.getElem?_eq_some_iff.1 h).1
  by_cases e : j = i
  · subst e
    rw [h, if_pos rfl, if_pos hj]; simp
  · rw [if_neg e]
    cases hi : m[i]? with
    | none => rfl
    | some q =>
      simp only [Option.map_some, Option.some.injEq]
      rw [if_neg]
      intro hq
      have h1 : (m.map (·.1))[i]? = some x := by rw [List.getElem?_map, hi]; simp [hq]
      have h2 : (m.map (·.1))[j]? = some x := by rw [List.getElem?_map, h]; simp
      obtain ⟨l1, e1⟩ := List.getElem?_eq_some_iff.1 h1
      obtain ⟨l2, e2⟩ := List.getElem?_eq_some_iff.1 h2
      exact e ((List.getElem_inj hn).1 (e2.trans e1.symm))
theorem mdel_none {x : κ} (h : ∀ p ∈ m, p.1 ≠ x) : mdel m x = m := by
  unfold mdel
  rw [List.filter_eq_self]
  intro p hp; simpa using h p hp
theorem mdel_some {x : κ} {v0 : α} {j : Nat} (hn : (m.map (·.1)).Nodup) (h : m[j]? = some (x, v0)) : mdel m x = m.eraseIdx j := by
  unfold mdel
  induction m generalizing j with
  | nil => simp at h
  | cons p r ih =>
    simp only [List.map_cons, List.nodup_cons] at hn
    cases j with
    | zero =>
      simp at h
      subst h
      simp only [List.filter_cons, beq_self_eq_true, Bool.not_true, Bool.false_eq_true, if_false, List.eraseIdx_cons_zero]
      rw [List.filter_eq_self]
      intro q hq
      have : q.1 ≠ x := fun e => hn.1 (by simp only []; rw [← e]; exact List.mem_map.2 ⟨q, hq, rfl⟩)
      simpa using this
    | succ j =>
      simp only [List.getElem?_cons_succ] at h
      have hp : p.1 ≠ x := fun e => hn.1 (by rw [e]; exact List.mem_map.2 ⟨_, List.mem_of_getElem? h, rfl⟩)
      have : (p.1 == x) = false := by simpa using hp
      simp only [List.filter_cons, this, Bool.not_false, if_true, List.eraseIdx_cons_succ]
      rw [ih hn.2 h]

/-- 'm[k]' and 'v, ok := m[k]'. -/
theorem GMap.lookup {t e : TypeId} (h : GMap P kt kf ok vf w b m) (K : KeyLike P kt kf ok) (ht : P.underlying t = some (.map kt e)) {z : Value} (hz : (zeroValue e).run P w = .ok z w) (x : κ) (hx : ok x) (c : Bool) :
    (Instr.lookup t (.map (some b)) (kf x) c).run P w = .ok (match mget m x with
      | some v => if c then .tuple #[vf v, .bool true] else vf v
      | none => if c then .tuple #[z, .bool false] else z) w := by
  obtain ⟨es, clock, hb, he, hs, hok⟩ := h
  obtain ⟨l, hl⟩ := K.read x hx
  rcases find_of K he hok w x hx with ⟨h1, h2, _⟩ | ⟨j, e0, v, h1, h2, h3, h4, h5⟩
  · rw [mget_none h2]
    simp [Instr.lookup, run_underlying ht, MapKept.run_getObj_map hb, K.keyed.check w _ hl, h1, hz, Result.andThen]
  · rw [mget_some (nodup_of K he hs) h5]
    simp [Instr.lookup, run_underlying ht, MapKept.run_getObj_map hb, K.keyed.check w _ hl, h1, Result.andThen]

theorem heap_setBlock_self {w : World} {b : Nat} (h : b < w.heap.size) (o' : Obj) : (setBlock w b o').heap[b]? = some o' := by
  simp [setBlock, h]

/-- 'm[k] = v'. -/
theorem GMap.update {t e : TypeId} (h : GMap P kt kf ok vf w b m) (K : KeyLike P kt kf ok) (ht : P.underlying t = some (.map kt e)) (x : κ) (hx : ok x) (v : α) :
    ∃ w', (Instr.mapUpdate t (.map (some b)) (kf x) (vf v)).run P w = .ok () w' ∧ GMap P kt kf ok vf w' b (mput m x v) ∧ Only (· = b) w w' := by
  have hlt := h.lt
  obtain ⟨es, clock, hb, he, hs, hok⟩ := h
  obtain ⟨l, hl⟩ := K.read x hx
  have honly : ∀ o', Only (· = b) w (setBlock w b o') := fun o' => ⟨rfl, rfl, rfl, by simp [setBlock], fun i _ hi => heap_setBlock_other hb _ hi⟩
  have hn := nodup_of K he hs
  rcases find_of K he hok w x hx with ⟨h1, h2, h2'⟩ | ⟨j, e0, v0, h1, h2, h3, h4, h5⟩
  · refine ⟨_, by simp [Instr.mapUpdate, run_underlying ht, MapKept.run_getObj_map hb, K.keyed.check w false hl, h1, MapKept.run_setObj_map _ hb, Result.andThen, setBlock], ?_, honly (.map (es.push ⟨kf x, vf v, clock⟩) (clock + 1))⟩
    refine ⟨_, _, heap_setBlock_self hlt _, ?_, stamped_push hs h2', ?_⟩
    · rw [mput_none h2]; simp [he]
    · rw [mput_none h2]
      intro p hp
      rcases List.mem_append.1 hp with hp | hp
      · exact hok p hp
      · simp at hp; rw [hp]; exact hx
  · have hj : es[j]? = some e0 := by simpa using h2
    have hkeyf : ∀ e', es[j]? = some e' → ({ e' with key := kf x, val := vf v } : MapEntry).key = e'.key := fun e' he' => by rw [hj] at he'; cases he'; exact h3.symm
    have hlist : (es.modify j (fun e' => { e' with key := kf x, val := vf v })).toList = es.toList.set j { e0 with key := kf x, val := vf v } := by rw [Array.toList_modify, modify_eq_set _ _ _ _ h2]
    refine ⟨_, by simp [Instr.mapUpdate, run_underlying ht, MapKept.run_getObj_map hb, K.keyed.check w false hl, h1, hj, h3, K.keyed.stays w hl, MapKept.run_setObj_map _ hb, Result.andThen, setBlock], ?_, honly (.map (es.modify j (fun e' => { e' with key := kf x, val := vf v })) clock)⟩
    refine ⟨_, _, heap_setBlock_self hlt _, ?_, stamped_modify hs _ _ (fun _ _ => rfl) (fun e' _ he' => hkeyf e' he'), ?_⟩
    · rw [mput_some hn h5, hlist, List.map_set, List.map_set, he]
    · rw [mput_some hn h5]
      intro p hp
      rcases List.mem_or_eq_of_mem_set hp with hp | rfl
      · exact hok p hp
      · exact hx

/-- 'delete(m, k)'. -/
theorem GMap.delete {t e ty : TypeId} (h : GMap P kt kf ok vf w b m) (K : KeyLike P kt kf ok) (ht : P.underlying t = some (.map kt e)) (x : κ) (hx : ok x) :
    ∃ w', (Builtin.delete_ #[t, kt] ty #[.map (some b), kf x]).run P w = .ok (.tuple #[]) w' ∧ GMap P kt kf ok vf w' b (mdel m x) ∧ Only (· = b) w w' := by
  have hlt := h.lt
  obtain ⟨es, clock, hb, he, hs, hok⟩ := h
  obtain ⟨l, hl⟩ := K.read x hx
  have honly : ∀ o', Only (· = b) w (setBlock w b o') := fun o' => ⟨rfl, rfl, rfl, by simp [setBlock], fun i _ hi => heap_setBlock_other hb _ hi⟩
  have hn := nodup_of K he hs
  have hsub : ∀ p ∈ mdel m x, ok p.1 := fun p hp => hok p (List.mem_filter.1 hp).1
  rcases find_of K he hok w x hx with ⟨h1, h2, h2'⟩ | ⟨j, e0, v0, h1, h2, h3, h4, h5⟩
  · refine ⟨_, by simp [Builtin.delete_, run_underlying ht, MapKept.run_getObj_map hb, K.keyed.check w _ hl, h1, MapKept.run_setObj_map _ hb, Result.andThen, setBlock], ?_, honly (.map es clock)⟩
    exact ⟨_, _, heap_setBlock_self hlt _, by rw [mdel_none h2]; exact he, hs, hsub⟩
  · have hjl : j < es.toList.length := (List.getElem?_eq_some_iff.1 h2).1
    have hjs : j < es.size := by simpa using hjl
    have hl2 : (es.eraseIdxIfInBounds j).toList = es.toList.eraseIdx j := by
      unfold Array.eraseIdxIfInBounds
      rw [dif_pos hjs]
      simp
    refine ⟨_, by simp [Builtin.delete_, run_underlying ht, MapKept.run_getObj_map hb, K.keyed.check w _ hl, h1, MapKept.run_setObj_map _ hb, Result.andThen, setBlock], ?_, honly (.map (es.eraseIdxIfInBounds j) clock)⟩
    refine ⟨_, _, heap_setBlock_self hlt _, ?_, stamped_erase hs j, hsub⟩
    rw [mdel_some hn h5, hl2, map_eraseIdx, map_eraseIdx, he]

omit [DecidableEq κ] in
/-- 'len(m)'. -/
theorem GMap.len {t e ty : TypeId} (h : GMap P kt kf ok vf w b m) (ht : P.underlying t = some (.map kt e)) :
    (Builtin.len_ #[t] ty #[.map (some b)]).run P w = .ok (.int .i64 m.length) w := by
  obtain ⟨es, clock, hb, he, hs, hok⟩ := h
  have : es.size = m.length := by have := congrArg List.length he; simpa using this
  simp [Builtin.len_, run_underlying ht, MapKept.run_getObj_map hb, goInt, this]
end
end

/-- int keys. -/
def ik (x : Int) : Value := .int .i64 x
def iok (x : Int) : Prop := (Lit.int .i64 x).wf = true
theorem int_like {P : Program} {kt : TypeId} (hk : P.underlying kt = some (.int .i64)) : KeyLike P kt ik iok where
  keyed := Maps.int_keyed hk
  read x hx := ⟨_, Maps.keyOf_int_mk hk hx⟩
  inj x y h := by unfold ik at h; injection h

/-- The walk's world under a new name: what is said of it stays. -/
theorem gen_world {P : Program} {c : Code} {Q : Exit → Act → World → Prop} {a : Act} {w : World} (R : World → Prop) (hr : R w) (h : ∀ W, R W → Code.wp P c Q a W) : Code.wp P c Q a w := h w hr

/-- A scope that begins with the label to which it jumps back. -/
theorem wp_scope_back {P : Program} {rest : Code} {Q : Exit → Act → World → Prop} {a : Act} {w : World} (l : Nat) (J : Act → World → Prop) (μ : Act → World → Nat) (h0 : J a w)
    (pass : ∀ a w, J a w → rest.wp P (Exit.jump l (fun a' w' => J a' w' ∧ μ a' w' < μ a w) Q) a w) : (Code.scope ((Code.label l).seq rest)).wp P Q a w := by
  refine wp_scope_jumps (rest := Code.skip.seq rest) l J μ (by simp [findLabel]) ?_ ?_
  · refine wp_seq (wp_label ?_)
    refine Code.wp_mono ?_ (pass a w h0)
    intro e a' w' h
    cases e <;> first | exact h | exact ⟨h.1, h.2.1⟩
  · intro a' w' h
    exact wp_seq (wp_skip (pass a' w' h))

/-- The walk stands still here: 'refine holdL ?_' in an arm; 'refine HoldL.go ?_' behind it. -/
def HoldL (p : Prop) : Prop := p
theorem holdL {p : Prop} (h : HoldL p) : p := h
theorem HoldL.go {p : Prop} (h : p) : HoldL p := h

/-- 'append(s, x)' of one element, behind 'at_builtin': the goal's world is 'W.alloc' of the variadic's box. -/
theorem append_one {P : Program} {ops : Array Oper} {rest : List Oper} {o : Oper} {a : Act} {Q : Exit → Act → World → Prop} {W : World} (hgd : o.guard = none) (s x : Operand) (t e : TypeId) (z : Value) (size bytes : Nat)
    (ho : o.op = .call { callee := .builtin .append, args := #[s, x], argTypes := #[t, t] }) (ht : P.underlying t = some (.slice e))
    (hinfo : (P.info? e).map (fun i => (i.zero, i.size, i.bytes)) = some (some z, size, bytes)) (hz : z.cells.size = size) (hsz : 0 < size) (hb0 : 0 < bytes)
    (v : Value) (n : Nat) (xs : List Value) (cs : Array Value) (B : Nat) (hs : a.eval s = v) (hx : a.eval x = .slice (some ⟨B, 0, none⟩) 1 1) (hB : B = W.heap.size) (hcs : cs.size = size) (h1 : ∀ u ∈ cs.toList, u.oneCell' = true)
    (HO : W.ownsRow 0 e size v n xs) (hl : (n + 1) * bytes ≤ 140737488355328)
    (h : ∀ v1 w1, w1.ownsRow 0 e size v1 (n + 1) (xs ++ cs.toList) → W.grownBy w1 v.ownBlock → (v1.ownBlock = v.ownBlock ∨ v1.ownBlock = some (W.heap.size + 1)) → wpList P ops Q rest (a.put o.dst v1) w1) :
    wpList P ops Q (o :: rest) a (W.alloc (.cells cs e)) := by
  subst hB
  obtain ⟨i0, hi, hzz⟩ := Option.map_eq_some_iff.1 hinfo
  simp only [Prod.mk.injEq] at hzz
  obtain ⟨hz0, hz1, hz2⟩ := hzz
  have hlen : n + 1 ≤ 140737488355328 := Nat.le_trans (Nat.le_mul_of_pos_right _ hb0) hl
  refine wpList_append_own_at (W.alloc (.cells cs e)) hgd s x t ho 0 e i0 z size bytes ht hi hz0 hz1 hz2 hz hsz v n xs hs (HO.alloc _) ⟨W.heap.size, 0, none⟩ 1 1 cs.toList hx (by simp [hcs])
    (World.news_of_block (cs := cs) (t := e) (fr := (0, 0)) (heap_alloc_new W _)) h1 (by simp only [maxLen]; omega) hl (by simp) ?_
  intro v1 w1 hown hg _ hat
  refine h v1 w1 hown (World.grownBy.trans (World.grownBy_alloc W _ _) hg) ?_
  rcases hat with hat | hat
  · exact .inl hat
  · exact .inr (by rw [hat]; simp)

/-! ### Rows of structs -/
/-- The cells of elements that follow one another. -/
def flat {α : Type} (f : α → List Value) (l : List α) : List Value := l.flatMap f
theorem flat_nil {α : Type} (f : α → List Value) : flat f [] = [] := rfl
theorem flat_append {α : Type} (f : α → List Value) (a b : List α) : flat f (a ++ b) = flat f a ++ flat f b := by simp [flat]
theorem flat_length {α : Type} {f : α → List Value} {s : Nat} (hf : ∀ x, (f x).length = s) (l : List α) : (flat f l).length = l.length * s := by
  induction l with
  | nil => simp [flat]
  | cons x r ih => simp only [flat, List.flatMap_cons, List.length_append, hf, List.length_cons] at *; rw [ih, Nat.add_mul]; omega
theorem flat_at {α : Type} {f : α → List Value} {s : Nat} (hf : ∀ x, (f x).length = s) : ∀ (l : List α) (k : Nat) (x : α) (j : Nat), l[k]? = some x → j < s → (flat f l)[k * s + j]? = (f x)[j]?
  | [], k, x, j, h, _ => by simp at h
  | y :: r, 0, x, j, h, hj => by
    simp at h; subst h
    simp only [flat, List.flatMap_cons, Nat.zero_mul, Nat.zero_add]
    rw [List.getElem?_append_left (by rw [hf]; exact hj)]
  | y :: r, k + 1, x, j, h, hj => by
    simp only [List.getElem?_cons_succ] at h
    have := flat_at hf r k x j h hj
    simp only [flat, List.flatMap_cons] at *
    rw [List.getElem?_append_right (by rw [hf, Nat.add_mul]; omega), hf, ← this, Nat.add_mul]
    congr 1
    omega
theorem flat_set {α : Type} {f : α → List Value} {s : Nat} (hf : ∀ x, (f x).length = s) (l : List α) (k : Nat) (hk : k < l.length) (x : α) :
    flat f (l.set k x) = (flat f l).take (k * s) ++ f x ++ (flat f l).drop (k * s + s) := by
  have e : l = l.take k ++ l[k] :: l.drop (k + 1) := by simp
  have hl : (l.take k).length = k := by simp; omega
  have h1 : l.set k x = l.take k ++ x :: l.drop (k + 1) := by
    rw [List.set_eq_take_append_cons_drop, if_pos hk]
  have t1 : (flat f l) = flat f (l.take k) ++ (f l[k] ++ flat f (l.drop (k + 1))) := by
    conv => lhs; rw [e]
    show List.flatMap f _ = List.flatMap f _ ++ (f _ ++ List.flatMap f _)
    rw [List.flatMap_append, List.flatMap_cons]
  have t2 : (flat f (l.take k)).length = k * s := by rw [flat_length hf, hl]
  rw [h1, t1]
  rw [List.take_left' t2]
  have t3 : (flat f (l.take k) ++ (f l[k] ++ flat f (l.drop (k + 1)))).drop (k * s + s) = flat f (l.drop (k + 1)) := by
    rw [← List.append_assoc]
    exact List.drop_left' (by rw [List.length_append, t2, hf])
  rw [t3]
  simp [flat]
end Go.Proofs.Ytcnifhkgibopbaa
