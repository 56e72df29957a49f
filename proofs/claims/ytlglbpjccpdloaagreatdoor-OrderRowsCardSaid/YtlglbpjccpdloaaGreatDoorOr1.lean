/- Gathered by a program of this session (shake.py): what the claim's theorem needs. -/
import Derived.Test.YtlglbpjccpdloaaGreatDoorOr0
import Derived.ScopeJumps
import Derived.Shelf.Unicode.PredsPay
import Derived.Laws.Runes
import Derived.Laws.RangeAny
import Derived.Lib.Hide
import Derived.WalkMore
import Derived.Shelf.Strings.SplitCore
import Derived.Shelf.Strings.Split
import Derived.Test.YtlglbpjccpdloaaGreatDoorProg
import Derived.Shelf.Strings.Builder1
import Derived.Shelf.Strings.Builder2
import Derived.Shelf.Strings.OnBuilder
import Derived.Shelf.Small.Utf8
import Derived.Shelf.Small.Strs
import Derived.Shelf.Strings.BuilderF
import Derived.Shelf.Strings.BuilderK
import Derived.Shelf.Strings.Builder2Cap
import Derived.Shelf.Strings.Search1
import Derived.Shelf.Strings.Search2
import Derived.Shelf.Strings.Search3
import Derived.Shelf.Strings.Count
import Derived.Shelf.LaysM
import Derived.Shelf.Strings.Shaped
import Derived.Shelf.Strings.Prefix
import Derived.Shelf.Strings.Fields
import Derived.Shelf.Strings.SplitShaped
import Derived.Shelf.Unicode.Latin
import Derived.Shelf.Strings.Runes
import Derived.Shelf.Strings.IndexAny
import Derived.Shelf.Strings.AsciiSet
import Derived.Shelf.Strings.IndexAnyAll
import Derived.Shelf.Unicode.DecodeSlow
import Derived.Shelf.Unicode.DecodeAny
import Derived.Shelf.Unicode.Is16White
import Derived.Shelf.Unicode.IsSpaceAny
import Derived.Shelf.Unicode.Is16WhiteD
import Derived.Shelf.Unicode.IsSpaceAnyD
import Derived.Shelf.Strings.FieldsAny
import Derived.Shelf.Strings.FieldsFuncAny
import Derived.Shelf.Unicode.Is16Any
import Derived.Shelf.Unicode.Is32Any
import Derived.Shelf.Unicode.ExclAny
import Derived.Shelf.Strings.BuilderCap
import Derived.Shelf.Slices.Turned
import Derived.WalkKit
import Derived.WalkSpells
import Derived.WalkLawsBesides
import Derived.BigQuiet
import Derived.Deep.QuietTactic
import Derived.Maps.Own
import Derived.Maps.AppendAt
import Derived.Laws.CopyOwn
import Derived.Deep.AppendLies
import Derived.MapKept
set_option linter.unusedVariables false
set_option linter.unusedSimpArgs false
namespace Go.Proofs.YtlglbpjccpdloaaGreatDoorW.PrintLast
end Go.Proofs.YtlglbpjccpdloaaGreatDoorW.PrintLast
namespace Go.Proofs.YtlglbpjccpdloaaGreatDoorW.PrintWords
end Go.Proofs.YtlglbpjccpdloaaGreatDoorW.PrintWords
set_option linter.unusedVariables false
set_option linter.unusedSimpArgs false
namespace Go.Proofs.YtlglbpjccpdloaaGreatDoor
open Go.RowKit Go.MapKept Go.ChangeMaps
structure Only (S : Nat → Prop) (w w' : World) : Prop where
  os : w'.os = w.os
  tape : w'.tape = w.tape
  output : w'.output = w.output
  size : w.heap.size ≤ w'.heap.size
  block : ∀ k, k < w.heap.size → ¬ S k → w'.heap[k]? = w.heap[k]?
theorem Only.trans {S S' : Nat → Prop} {a b c : World} (h : Only S a b) (k : Only S' b c) (hs : ∀ i, i < a.heap.size → S' i → S i) : Only S a c :=
  ⟨k.os.trans h.os, k.tape.trans h.tape, k.output.trans h.output, Nat.le_trans h.size k.size, fun i hi hn =>
    (k.block i (Nat.lt_of_lt_of_le hi h.size) fun hk => hn (hs i hi hk)).trans (h.block i hi hn)⟩
theorem Only.then_ {S : Nat → Prop} {a b c : World} (h : Only S a b) (k : Only S b c) : Only S a c := h.trans k fun _ _ x => x
theorem Only.setCell {S : Nat → Prop} {a w : World} (h : Only S a w) {p : Addr} (hp : S p.block ∨ a.heap.size ≤ p.block) (u : Value) : Only S a (w.setCell p u) :=
  h.trans (S' := fun k => k = p.block) ⟨rfl, rfl, rfl, by simp, fun k hk hn => Below.heap_setCell _ _ _ _ hn⟩ fun i hi e => by
    subst e
    rcases hp with hp | hp
    · exact hp
    · omega
theorem Only.below {S : Nat → Prop} {B : Nat} {w w' : World} (h : Only S w w') (hB : B ≤ w.heap.size) (hs : ∀ k, S k → B ≤ k) : Below B w w' :=
  ⟨h.os, h.tape, h.output, h.size, fun k hk => h.block k (Nat.lt_of_lt_of_le hk hB) fun hk' => by have := hs k hk'; omega⟩
theorem Below.only {S : Nat → Prop} {B : Nat} {a w w' : World} (hb : Below B a w) (h : Only S w w') (hB : B ≤ w.heap.size) (hs : ∀ k, S k → B ≤ k) : Below B a w' :=
  hb.trans (h.below hB hs)
theorem Only.cell {S : Nat → Prop} {w w' : World} (h : Only S w w') {a : Addr} {v : Value} (hc : w.cell? a = some v) (hs : ¬ S a.block) : w'.cell? a = some v :=
  (World.cell?_of_block (h.block a.block (World.block_lt_of_cell? w a hc) hs)).trans hc
theorem lt_of_heap {w : World} {b : Nat} {o : Obj} (h : w.heap[b]? = some o) : b < w.heap.size := (Array.getElem?_eq_some_iff.1 h).1
theorem heap_alloc_lt (w : World) (o : Obj) {b : Nat} {x : Obj} (h : w.heap[b]? = some x) : (w.alloc o).heap[b]? = some x := by
  rw [Below.heap_alloc _ _ _ (lt_of_heap h)]; exact h
theorem heap_two (w : World) (a b : Obj) : ((w.alloc a).alloc b).heap[w.heap.size]? = some a ∧ ((w.alloc a).alloc b).heap[w.heap.size + 1]? = some b :=
  ⟨heap_alloc_lt _ _ (MapKept.heap_alloc w a).1, by have := (MapKept.heap_alloc (w.alloc a) b).1; simpa using this⟩
theorem heap_set_eq (w : World) {b i : Nat} (v : Value) {c : Array Value} {e : TypeId} {f : Nat × Nat} (h : w.heap[b]? = some (.cells c e f)) : (w.setCell ⟨b, i, none⟩ v).heap[b]? = some (.cells (c.setIfInBounds i v) e f) := by
  simp [World.setCell, Array.getElem?_modify, h]
theorem cell_of_cells {w : World} {b : Nat} {c : Array Value} {e : TypeId} (h : w.heap[b]? = some (.cells c e (0, 0))) (i : Nat) : w.cell? ⟨b, i, none⟩ = c[i]? := by
  simp [World.cell?, h]
theorem free_of_cells {w : World} {b : Nat} {c : Array Value} {e : TypeId} (h : w.heap[b]? = some (.cells c e (0, 0))) (i : Nat) : w.frozen? ⟨b, i, none⟩ = false := by
  simp [World.frozen?, h]
section
variable {κ α : Type}
def mget [DecidableEq κ] (m : List (κ × α)) (x : κ) : Option α := (m.find? fun p => p.1 == x).map (·.2)
def mput [DecidableEq κ] (m : List (κ × α)) (x : κ) (v : α) : List (κ × α) := if m.any (fun p => p.1 == x) then m.map (fun p => if p.1 = x then (x, v) else p) else m ++ [(x, v)]
def GMap (P : Program) (kt : TypeId) (kf : κ → Value) (ok : κ → Prop) (vf : α → Value) (w : World) (b : Nat) (m : List (κ × α)) : Prop :=
  ∃ es clock, w.heap[b]? = some (.map es clock) ∧ es.toList.map (fun x => (x.key, x.val)) = m.map (fun p => (kf p.1, vf p.2)) ∧ Stamped es clock ∧ (∀ p ∈ m, ok p.1)
structure KeyLike (P : Program) (kt : TypeId) (kf : κ → Value) (ok : κ → Prop) : Prop where
  keyed : Maps.Keyed P kt
  read : ∀ x, ok x → ∃ l, keyOf P kt (kf x) = some l
  inj : ∀ x y, kf x = kf y → x = y
variable {P : Program} {kt : TypeId} {kf : κ → Value} {ok : κ → Prop} {vf : α → Value} {w : World} {b : Nat} {m : List (κ × α)}
theorem GMap.lt (h : GMap P kt kf ok vf w b m) : b < w.heap.size := by
  obtain ⟨es, clock, hb, _⟩ := h
  exact lt_of_heap hb
theorem GMap.of_block {w' : World} (h : GMap P kt kf ok vf w b m) (e : w'.heap[b]? = w.heap[b]?) : GMap P kt kf ok vf w' b m := by
  obtain ⟨es, clock, hb, r⟩ := h
  exact ⟨es, clock, e.trans hb, r⟩
theorem GMap.only {S : Nat → Prop} {w' : World} (h : GMap P kt kf ok vf w b m) (ho : Only S w w') (hs : ¬ S b) : GMap P kt kf ok vf w' b m := h.of_block (ho.block b h.lt hs)
theorem GMap.made (w : World) : GMap P kt kf ok vf (w.alloc (.map #[] 0)) w.heap.size ([] : List (κ × α)) :=
  ⟨#[], 0, (MapKept.heap_alloc w _).1, rfl, stamped_empty 0, by simp⟩
theorem entry_at {es : List MapEntry} (he : es.map (fun x => (x.key, x.val)) = m.map (fun p => (kf p.1, vf p.2))) (j : Nat) {x : MapEntry} (hx : es[j]? = some x) : ∃ p, m[j]? = some p ∧ x.key = kf p.1 ∧ x.val = vf p.2 := by
  have h := congrArg (fun l => l[j]?) he
  simp only [List.getElem?_map, hx, Option.map_some] at h
  cases hm : m[j]? with
  | none => rw [hm] at h; cases h
  | some p =>
    rw [hm] at h
    simp only [Option.map_some, Option.some.injEq, Prod.mk.injEq] at h
    exact ⟨p, rfl, h.1, h.2⟩
theorem nodup_of (K : KeyLike P kt kf ok) {es : Array MapEntry} {clock : Nat} (he : es.toList.map (fun x => (x.key, x.val)) = m.map (fun p => (kf p.1, vf p.2))) (hs : Stamped es clock) : (m.map (·.1)).Nodup := by
  have h1 := ((stamped_iff es clock).1 hs).2.2
  have h2 : (es.toList.map (fun x => (x.key, x.val))).Pairwise (fun p q => p.1 ≠ q.1) := by rw [List.pairwise_map]; exact h1
  rw [he, List.pairwise_map] at h2
  show (m.map (·.1)).Pairwise (· ≠ ·)
  rw [List.pairwise_map]
  exact h2.imp fun h e => h (by simp only []; rw [e])
theorem find_of (K : KeyLike P kt kf ok) {es : Array MapEntry} (he : es.toList.map (fun x => (x.key, x.val)) = m.map (fun p => (kf p.1, vf p.2))) (hok : ∀ p ∈ m, ok p.1) (w : World) (x : κ) (hx : ok x) :
    ((Instr.findKey kt (kf x) es.toList).run P w = .ok none w ∧ (∀ p ∈ m, p.1 ≠ x) ∧ ∀ e ∈ es.toList, e.key ≠ kf x) ∨
    ∃ j e v, (Instr.findKey kt (kf x) es.toList).run P w = .ok (some (j, vf v)) w ∧ es.toList[j]? = some e ∧ e.key = kf x ∧ e.val = vf v ∧ m[j]? = some (x, v) := by
  obtain ⟨l, hl⟩ := K.read x hx
  have hes : ∀ e ∈ es.toList, ∃ l, keyOf P kt e.key = some l := by
    intro e h
    obtain ⟨j, hj⟩ := List.mem_iff_getElem?.1 h
    obtain ⟨p, hp, h1, _⟩ := entry_at he j hj
    rw [h1]
    exact K.read _ (hok p (List.mem_of_getElem? hp))
  rcases K.keyed.find w hl es.toList hes with ⟨h1, h2⟩ | ⟨j, e, h1, h2, h3⟩
  · refine .inl ⟨h1, fun p hp ex => ?_, h2⟩
    have : (kf p.1, vf p.2) ∈ es.toList.map (fun x => (x.key, x.val)) := by rw [he]; exact List.mem_map.2 ⟨p, hp, rfl⟩
    obtain ⟨e, h, hee⟩ := List.mem_map.1 this
    simp only [Prod.mk.injEq] at hee
    exact h2 e h (by rw [hee.1, ex])
  · obtain ⟨p, hp, h4, h5⟩ := entry_at he j h2
    have : p.1 = x := K.inj _ _ (by rw [← h4, h3])
    refine .inr ⟨j, e, p.2, by rw [← h5]; exact h1, h2, h3, h5, ?_⟩
    rw [hp, ← this]
section
variable [DecidableEq κ]
theorem mget_none {x : κ} (h : ∀ p ∈ m, p.1 ≠ x) : mget m x = none := by
  unfold mget
  rw [List.find?_eq_none.2 (by intro p hp; simpa using h p hp)]; rfl
theorem mget_some {x : κ} {v : α} {j : Nat} (hn : (m.map (·.1)).Nodup) (h : m[j]? = some (x, v)) : mget m x = some v := by
  unfold mget
  induction m generalizing j with
  | nil => simp at h
  | cons p r ih =>
    rw [List.find?_cons]
    by_cases hp : p.1 = x
    · simp only [hp, beq_self_eq_true]
      cases j with
      | zero => simp at h; rw [h]; rfl
      | succ j =>
        simp only [List.getElem?_cons_succ] at h
        simp only [List.map_cons, List.nodup_cons] at hn
        exact absurd (List.mem_map.2 ⟨(x, v), List.mem_of_getElem? h, hp.symm⟩) hn.1
    · have : (p.1 == x) = false := by simpa using hp
      simp only [this]
      cases j with
      | zero => simp at h; exact absurd (by rw [h]) hp
      | succ j =>
        simp only [List.map_cons, List.nodup_cons] at hn
        exact ih hn.2 (by simpa using h)
theorem mput_none {x : κ} {v : α} (h : ∀ p ∈ m, p.1 ≠ x) : mput m x v = m ++ [(x, v)] := by
  unfold mput
  rw [if_neg]
  simp only [List.any_eq_true, not_exists, not_and]
  intro p hp; simpa using h p hp
theorem mput_some {x : κ} {v v0 : α} {j : Nat} (hn : (m.map (·.1)).Nodup) (h : m[j]? = some (x, v0)) : mput m x v = m.set j (x, v) := by
  unfold mput
  rw [if_pos (by simp only [List.any_eq_true]; exact ⟨_, List.mem_of_getElem? h, by simp⟩)]
  apply List.ext_getElem?
  intro i
  rw [List.getElem?_map, List.getElem?_set]
  have hj : j < m.length := (List.getElem?_eq_some_iff.1 h).1
  by_cases e : j = i
  · subst e
    rw [h, if_pos rfl, if_pos hj]; simp
  · rw [if_neg e]
    cases hi : m[i]? with
    | none => rfl
    | some q =>
      simp only [Option.map_some, Option.some.injEq]
      rw [if_neg]
      intro hq
      have h1 : (m.map (·.1))[i]? = some x := by rw [List.getElem?_map, hi]; simp [hq]
      have h2 : (m.map (·.1))[j]? = some x := by rw [List.getElem?_map, h]; simp
      obtain ⟨l1, e1⟩ := List.getElem?_eq_some_iff.1 h1
      obtain ⟨l2, e2⟩ := List.getElem?_eq_some_iff.1 h2
      exact e ((List.getElem_inj hn).1 (e2.trans e1.symm))
theorem GMap.lookup {t e : TypeId} (h : GMap P kt kf ok vf w b m) (K : KeyLike P kt kf ok) (ht : P.underlying t = some (.map kt e)) {z : Value} (hz : (zeroValue e).run P w = .ok z w) (x : κ) (hx : ok x) (c : Bool) :
    (Instr.lookup t (.map (some b)) (kf x) c).run P w = .ok (match mget m x with
      | some v => if c then .tuple #[vf v, .bool true] else vf v
      | none => if c then .tuple #[z, .bool false] else z) w := by
  obtain ⟨es, clock, hb, he, hs, hok⟩ := h
  obtain ⟨l, hl⟩ := K.read x hx
  rcases find_of K he hok w x hx with ⟨h1, h2, _⟩ | ⟨j, e0, v, h1, h2, h3, h4, h5⟩
  · rw [mget_none h2]
    simp [Instr.lookup, run_underlying ht, MapKept.run_getObj_map hb, K.keyed.check w _ hl, h1, hz, Result.andThen]
  · rw [mget_some (nodup_of K he hs) h5]
    simp [Instr.lookup, run_underlying ht, MapKept.run_getObj_map hb, K.keyed.check w _ hl, h1, Result.andThen]
theorem heap_setBlock_self {w : World} {b : Nat} (h : b < w.heap.size) (o' : Obj) : (setBlock w b o').heap[b]? = some o' := by
  simp [setBlock, h]
theorem GMap.update {t e : TypeId} (h : GMap P kt kf ok vf w b m) (K : KeyLike P kt kf ok) (ht : P.underlying t = some (.map kt e)) (x : κ) (hx : ok x) (v : α) :
    ∃ w', (Instr.mapUpdate t (.map (some b)) (kf x) (vf v)).run P w = .ok () w' ∧ GMap P kt kf ok vf w' b (mput m x v) ∧ Only (· = b) w w' := by
  have hlt := h.lt
  obtain ⟨es, clock, hb, he, hs, hok⟩ := h
  obtain ⟨l, hl⟩ := K.read x hx
  have honly : ∀ o', Only (· = b) w (setBlock w b o') := fun o' => ⟨rfl, rfl, rfl, by simp [setBlock], fun i _ hi => heap_setBlock_other hb _ hi⟩
  have hn := nodup_of K he hs
  rcases find_of K he hok w x hx with ⟨h1, h2, h2'⟩ | ⟨j, e0, v0, h1, h2, h3, h4, h5⟩
  · refine ⟨_, by simp [Instr.mapUpdate, run_underlying ht, MapKept.run_getObj_map hb, K.keyed.check w false hl, h1, MapKept.run_setObj_map _ hb, Result.andThen, setBlock], ?_, honly (.map (es.push ⟨kf x, vf v, clock⟩) (clock + 1))⟩
    refine ⟨_, _, heap_setBlock_self hlt _, ?_, stamped_push hs h2', ?_⟩
    · rw [mput_none h2]; simp [he]
    · rw [mput_none h2]
      intro p hp
      rcases List.mem_append.1 hp with hp | hp
      · exact hok p hp
      · simp at hp; rw [hp]; exact hx
  · have hj : es[j]? = some e0 := by simpa using h2
    have hkeyf : ∀ e', es[j]? = some e' → ({ e' with key := kf x, val := vf v } : MapEntry).key = e'.key := fun e' he' => by rw [hj] at he'; cases he'; exact h3.symm
    have hlist : (es.modify j (fun e' => { e' with key := kf x, val := vf v })).toList = es.toList.set j { e0 with key := kf x, val := vf v } := by rw [Array.toList_modify, modify_eq_set _ _ _ _ h2]
    refine ⟨_, by simp [Instr.mapUpdate, run_underlying ht, MapKept.run_getObj_map hb, K.keyed.check w false hl, h1, hj, h3, K.keyed.stays w hl, MapKept.run_setObj_map _ hb, Result.andThen, setBlock], ?_, honly (.map (es.modify j (fun e' => { e' with key := kf x, val := vf v })) clock)⟩
    refine ⟨_, _, heap_setBlock_self hlt _, ?_, stamped_modify hs _ _ (fun _ _ => rfl) (fun e' _ he' => hkeyf e' he'), ?_⟩
    · rw [mput_some hn h5, hlist, List.map_set, List.map_set, he]
    · rw [mput_some hn h5]
      intro p hp
      rcases List.mem_or_eq_of_mem_set hp with hp | rfl
      · exact hok p hp
      · exact hx
end
end
def ik (x : Int) : Value := .int .i64 x
def iok (x : Int) : Prop := (Lit.int .i64 x).wf = true
theorem int_like {P : Program} {kt : TypeId} (hk : P.underlying kt = some (.int .i64)) : KeyLike P kt ik iok where
  keyed := Maps.int_keyed hk
  read x hx := ⟨_, Maps.keyOf_int_mk hk hx⟩
  inj x y h := by unfold ik at h; injection h
theorem gen_world {P : Program} {c : Code} {Q : Exit → Act → World → Prop} {a : Act} {w : World} (R : World → Prop) (hr : R w) (h : ∀ W, R W → Code.wp P c Q a W) : Code.wp P c Q a w := h w hr
def HoldL (p : Prop) : Prop := p
theorem holdL {p : Prop} (h : HoldL p) : p := h
theorem HoldL.go {p : Prop} (h : p) : HoldL p := h
theorem append_one {P : Program} {ops : Array Oper} {rest : List Oper} {o : Oper} {a : Act} {Q : Exit → Act → World → Prop} {W : World} (hgd : o.guard = none) (s x : Operand) (t e : TypeId) (z : Value) (size bytes : Nat)
    (ho : o.op = .call { callee := .builtin .append, args := #[s, x], argTypes := #[t, t] }) (ht : P.underlying t = some (.slice e))
    (hinfo : (P.info? e).map (fun i => (i.zero, i.size, i.bytes)) = some (some z, size, bytes)) (hz : z.cells.size = size) (hsz : 0 < size) (hb0 : 0 < bytes)
    (v : Value) (n : Nat) (xs : List Value) (cs : Array Value) (B : Nat) (hs : a.eval s = v) (hx : a.eval x = .slice (some ⟨B, 0, none⟩) 1 1) (hB : B = W.heap.size) (hcs : cs.size = size) (h1 : ∀ u ∈ cs.toList, u.oneCell' = true)
    (HO : W.ownsRow 0 e size v n xs) (hl : (n + 1) * bytes ≤ 140737488355328)
    (h : ∀ v1 w1, w1.ownsRow 0 e size v1 (n + 1) (xs ++ cs.toList) → W.grownBy w1 v.ownBlock → (v1.ownBlock = v.ownBlock ∨ v1.ownBlock = some (W.heap.size + 1)) → wpList P ops Q rest (a.put o.dst v1) w1) :
    wpList P ops Q (o :: rest) a (W.alloc (.cells cs e)) := by
  subst hB
  obtain ⟨i0, hi, hzz⟩ := Option.map_eq_some_iff.1 hinfo
  simp only [Prod.mk.injEq] at hzz
  obtain ⟨hz0, hz1, hz2⟩ := hzz
  have hlen : n + 1 ≤ 140737488355328 := Nat.le_trans (Nat.le_mul_of_pos_right _ hb0) hl
  refine wpList_append_own_at (W.alloc (.cells cs e)) hgd s x t ho 0 e i0 z size bytes ht hi hz0 hz1 hz2 hz hsz v n xs hs (HO.alloc _) ⟨W.heap.size, 0, none⟩ 1 1 cs.toList hx (by simp [hcs])
    (World.news_of_block (cs := cs) (t := e) (fr := (0, 0)) (heap_alloc_new W _)) h1 (by simp only [maxLen]; omega) hl (by simp) ?_
  intro v1 w1 hown hg _ hat
  refine h v1 w1 hown (World.grownBy.trans (World.grownBy_alloc W _ _) hg) ?_
  rcases hat with hat | hat
  · exact .inl hat
  · exact .inr (by rw [hat]; simp)
end Go.Proofs.YtlglbpjccpdloaaGreatDoor
namespace Go.Proofs
open Go.Shelf
def Tryz.lays156_ren : Go.Shelf.Ren := ⟨fun | 156 => 52 | 165 => 78 | 166 => 79 | 169 => 80 | 240 => 97 | 241 => 98 | 276 => 113 | 277 => 114 | n => n, fun | 31 => 22 | 9 => 9 | 3 => 3 | 4 => 4 | 0 => 0 | 20 => 20 | 72 => 89 | 76 => 93 | 70 => 87 | 37 => 80 | 75 => 92 | 127 => 126 | 164 => 146 | 5 => 5 | 80 => 95 | n => n, fun | n => n⟩
theorem Tryz.lays156 : Go.Proofs.Lays.n156 Tryz.prog Tryz.lays156_ren := {
  mixed := by kernel_rfl
  f156 := Tryz.func52.trans (congrArg some (by kernel_rfl))
  f165 := Tryz.func78.trans (congrArg some (by kernel_rfl))
  f166 := Tryz.func79.trans (congrArg some (by kernel_rfl))
  f169 := Tryz.func80.trans (congrArg some (by kernel_rfl))
  f240 := Tryz.func97.trans (congrArg some (by kernel_rfl))
  f241 := Tryz.func98.trans (congrArg some (by kernel_rfl))
  f276 := Tryz.func113.trans (congrArg some (by kernel_rfl))
  f277 := Tryz.func114.trans (congrArg some (by kernel_rfl))
  t0 := Tryz.underlying0
  a0 := Tryz.isAgg0
  z0 := Tryz.sizeOf0
  v0 := Tryz.zeroValue0
  t3 := Tryz.underlying3
  a3 := Tryz.isAgg3
  z3 := Tryz.sizeOf3
  v3 := Tryz.zeroValue3
  t4 := Tryz.underlying4
  a4 := Tryz.isAgg4
  z4 := Tryz.sizeOf4
  v4 := Tryz.zeroValue4
  t9 := Tryz.underlying9
  a9 := Tryz.isAgg9
  z9 := Tryz.sizeOf9
  v9 := Tryz.zeroValue9
  t20 := Tryz.underlying20
  a20 := Tryz.isAgg20
  z20 := Tryz.sizeOf20
  v20 := Tryz.zeroValue20
  t31 := Tryz.underlying22
  a31 := Tryz.isAgg22
  z31 := Tryz.sizeOf22
  v31 := Tryz.zeroValue22
  t37 := Tryz.underlying80
  a37 := Tryz.isAgg80
  z37 := Tryz.sizeOf80
  v37 := Tryz.zeroValue80
  t70 := Tryz.underlying87
  a70 := Tryz.isAgg87
  z70 := Tryz.sizeOf87
  v70 := Tryz.zeroValue87
  t72 := Tryz.underlying89
  a72 := Tryz.isAgg89
  z72 := Tryz.sizeOf89
  v72 := Tryz.zeroValue89
  t75 := Tryz.underlying92
  a75 := Tryz.isAgg92
  z75 := Tryz.sizeOf92
  v75 := Tryz.zeroValue92
  t76 := Tryz.underlying93
  a76 := Tryz.isAgg93
  z76 := Tryz.sizeOf93
  v76 := Tryz.zeroValue93
  t127 := Tryz.underlying126
  a127 := Tryz.isAgg126
  z127 := Tryz.sizeOf126
  v127 := Tryz.zeroValue126
  t164 := Tryz.underlying146
  a164 := Tryz.isAgg146
  z164 := Tryz.sizeOf146
  v164 := Tryz.zeroValue146 }
theorem Tryz.Builder_Extra_156 : Builder.Extra Tryz.prog Tryz.lays156_ren := {
  sizeBuilder := by kernel_rfl
  liesBuilder := by kernel_rfl
  t5 := Tryz.underlying5
  a5 := Tryz.isAgg5
  z5 := Tryz.sizeOf5
  v5 := Tryz.zeroValue5
  infoByte := by kernel_rfl
  cellsByte := by kernel_rfl
  sizeByte := by kernel_rfl
  neB5 := by decide }
open Go.RowKit in
theorem Tryz.strings_Join_none (a : Option Addr) (c : Nat) (sep : ByteArray) (w : World) :
    Calls Tryz.prog 52 #[.slice a 0 c, .string sep] w fun e w' => e = .returned (.string ⟨#[]⟩) ∧ w' = w := Any.strings_Join_none Tryz.lays156 Tryz.Builder_Extra_156 a c sep w
open Go.RowKit in
theorem Tryz.strings_Join (bk o c : Nat) (xs : List ByteArray) (sep : ByteArray) (w : World) (hcells : ∀ (j : Nat) x, xs[j]? = some x → w.cell? ⟨bk, o + j, none⟩ = some (.string x)) (hbk : bk < w.heap.size) (hN : xs.length ≤ 140737488355328) (hcap : xs.length ≤ c) (hlen : (Lib.join (xs.map (·.data.toList)) sep.data.toList).length ≤ 140737488355328) :
    Calls Tryz.prog 52 #[.slice (some ⟨bk, o, none⟩) xs.length c, .string sep] w fun e w' => e = .returned (.string ⟨(Lib.join (xs.map (·.data.toList)) sep.data.toList).toArray⟩) ∧ Below w.heap.size w w' := Any.strings_Join Tryz.lays156 Tryz.Builder_Extra_156 bk o c xs sep w hcells hbk hN hcap hlen
def Tryz.lays119_ren : Go.Shelf.Ren := ⟨fun | 119 => 107 | n => n, fun | 21 => 21 | 4 => 4 | n => n, fun | n => n⟩
theorem Tryz.lays119 : Go.Proofs.Lays.n119 Tryz.prog Tryz.lays119_ren := {
  mixed := by kernel_rfl
  f119 := Tryz.func107.trans (congrArg some (by kernel_rfl))
  t4 := Tryz.underlying4
  a4 := Tryz.isAgg4
  z4 := Tryz.sizeOf4
  v4 := Tryz.zeroValue4
  t21 := Tryz.underlying21
  a21 := Tryz.isAgg21
  z21 := Tryz.sizeOf21
  v21 := Tryz.zeroValue21 }
theorem Tryz.utf8_ValidRune (r : Int) (w : World) :
    Calls Tryz.prog 107 #[.int .i32 r] w fun e w' => e = .returned (.bool (Lib.validRune r)) ∧ w' = w := Any.utf8_ValidRune Tryz.lays119 r w
def Tryz.lays137_ren : Go.Shelf.Ren := ⟨fun | 137 => 106 | 217 => 126 | 266 => 137 | n => n, fun | 9 => 9 | 5 => 5 | 3 => 3 | n => n, fun | n => n⟩
theorem Tryz.lays137 : Go.Proofs.Lays.n137 Tryz.prog Tryz.lays137_ren := {
  mixed := by kernel_rfl
  f137 := Tryz.func106.trans (congrArg some (by kernel_rfl))
  f217 := Tryz.func126.trans (congrArg some (by kernel_rfl))
  f266 := Tryz.func137.trans (congrArg some (by kernel_rfl))
  t3 := Tryz.underlying3
  a3 := Tryz.isAgg3
  z3 := Tryz.sizeOf3
  v3 := Tryz.zeroValue3
  t5 := Tryz.underlying5
  a5 := Tryz.isAgg5
  z5 := Tryz.sizeOf5
  v5 := Tryz.zeroValue5
  t9 := Tryz.underlying9
  a9 := Tryz.isAgg9
  z9 := Tryz.sizeOf9
  v9 := Tryz.zeroValue9 }
open Go.RowKit in
theorem Tryz.strings_IndexByte (s : ByteArray) (c : Int) (w : World) :
    Calls Tryz.prog 106 #[.string s, .int .u8 c] w fun e w' => e = .returned (.int .i64 (Lib.indexByte s.data.toList c.toNat.toUInt8)) ∧ w' = w := Any.strings_IndexByte Tryz.lays137 s c w
def Tryz.lays143_ren : Go.Shelf.Ren := ⟨fun | 143 => 112 | 219 => 130 | 217 => 126 | 225 => 109 | 224 => 108 | 267 => 139 | 266 => 137 | 314 => 150 | n => n, fun | 9 => 9 | 3 => 3 | 4 => 4 | 5 => 5 | 46 => 143 | 146 => 193 | 51 => 100 | n => n, fun | 1 => 2 | n => n⟩
theorem Tryz.lays143 : Go.Proofs.Lays.n143 Tryz.prog Tryz.lays143_ren := {
  mixed := by kernel_rfl
  f143 := Tryz.func112.trans (congrArg some (by kernel_rfl))
  f217 := Tryz.func126.trans (congrArg some (by kernel_rfl))
  f219 := Tryz.func130.trans (congrArg some (by kernel_rfl))
  f224 := Tryz.func108.trans (congrArg some (by kernel_rfl))
  f225 := Tryz.func109.trans (congrArg some (by kernel_rfl))
  f266 := Tryz.func137.trans (congrArg some (by kernel_rfl))
  f267 := Tryz.func139.trans (congrArg some (by kernel_rfl))
  f314 := Tryz.func150.trans (congrArg some (by kernel_rfl))
  t3 := Tryz.underlying3
  a3 := Tryz.isAgg3
  z3 := Tryz.sizeOf3
  v3 := Tryz.zeroValue3
  t4 := Tryz.underlying4
  a4 := Tryz.isAgg4
  z4 := Tryz.sizeOf4
  v4 := Tryz.zeroValue4
  t5 := Tryz.underlying5
  a5 := Tryz.isAgg5
  z5 := Tryz.sizeOf5
  v5 := Tryz.zeroValue5
  t9 := Tryz.underlying9
  a9 := Tryz.isAgg9
  z9 := Tryz.sizeOf9
  v9 := Tryz.zeroValue9
  t46 := Tryz.underlying143
  a46 := Tryz.isAgg143
  z46 := Tryz.sizeOf143
  v46 := Tryz.zeroValue143
  t51 := Tryz.underlying100
  a51 := Tryz.isAgg100
  z51 := Tryz.sizeOf100
  v51 := Tryz.zeroValue100
  t146 := Tryz.underlying193
  a146 := Tryz.isAgg193
  z146 := Tryz.sizeOf193
  v146 := Tryz.zeroValue193
  g1 := by kernel_rfl }
open Go.RowKit Go.Lib in
theorem Tryz.strings_Index_one (s : ByteArray) (c : UInt8) (w : World) :
    Calls Tryz.prog 112 #[.string s, .string ⟨#[c]⟩] w fun e w' => e = .returned (.int .i64 (Lib.indexByte s.data.toList c)) ∧ w' = w := Any.strings_Index_one Tryz.lays143 s c w
def Tryz.lays138_ren : Go.Shelf.Ren := ⟨fun | 138 => 111 | 195 => 127 | 218 => 129 | 143 => 112 | 219 => 130 | 217 => 126 | 225 => 109 | 224 => 108 | 267 => 139 | 266 => 137 | 314 => 150 | n => n, fun | 9 => 9 | 3 => 3 | 4 => 4 | 5 => 5 | 0 => 0 | 46 => 143 | 146 => 193 | 51 => 100 | n => n, fun | 1 => 2 | n => n⟩
theorem Tryz.lays138 : Go.Proofs.Lays.n138 Tryz.prog Tryz.lays138_ren := {
  mixed := by kernel_rfl
  f138 := Tryz.func111.trans (congrArg some (by kernel_rfl))
  f143 := Tryz.func112.trans (congrArg some (by kernel_rfl))
  f195 := Tryz.func127.trans (congrArg some (by kernel_rfl))
  f217 := Tryz.func126.trans (congrArg some (by kernel_rfl))
  f218 := Tryz.func129.trans (congrArg some (by kernel_rfl))
  f219 := Tryz.func130.trans (congrArg some (by kernel_rfl))
  f224 := Tryz.func108.trans (congrArg some (by kernel_rfl))
  f225 := Tryz.func109.trans (congrArg some (by kernel_rfl))
  f266 := Tryz.func137.trans (congrArg some (by kernel_rfl))
  f267 := Tryz.func139.trans (congrArg some (by kernel_rfl))
  f314 := Tryz.func150.trans (congrArg some (by kernel_rfl))
  t0 := Tryz.underlying0
  a0 := Tryz.isAgg0
  z0 := Tryz.sizeOf0
  v0 := Tryz.zeroValue0
  t3 := Tryz.underlying3
  a3 := Tryz.isAgg3
  z3 := Tryz.sizeOf3
  v3 := Tryz.zeroValue3
  t4 := Tryz.underlying4
  a4 := Tryz.isAgg4
  z4 := Tryz.sizeOf4
  v4 := Tryz.zeroValue4
  t5 := Tryz.underlying5
  a5 := Tryz.isAgg5
  z5 := Tryz.sizeOf5
  v5 := Tryz.zeroValue5
  t9 := Tryz.underlying9
  a9 := Tryz.isAgg9
  z9 := Tryz.sizeOf9
  v9 := Tryz.zeroValue9
  t46 := Tryz.underlying143
  a46 := Tryz.isAgg143
  z46 := Tryz.sizeOf143
  v46 := Tryz.zeroValue143
  t51 := Tryz.underlying100
  a51 := Tryz.isAgg100
  z51 := Tryz.sizeOf100
  v51 := Tryz.zeroValue100
  t146 := Tryz.underlying193
  a146 := Tryz.isAgg193
  z146 := Tryz.sizeOf193
  v146 := Tryz.zeroValue193
  g1 := by kernel_rfl }
open Go.RowKit Go.Lib in
theorem Tryz.strings_Count_one (s : ByteArray) (c : UInt8) (w : World) :
    Calls Tryz.prog 111 #[.string s, .string ⟨#[c]⟩] w fun e w' => e = .returned (.int .i64 (Lib.countByte s.data.toList c)) ∧ w' = w := Any.strings_Count_one Tryz.lays138 s c w
def Tryz.lays221_ren : Go.Shelf.Ren := ⟨fun | 221 => 95 | 268 => 110 | 138 => 111 | 143 => 112 | 195 => 127 | 197 => 128 | 218 => 129 | 219 => 130 | 260 => 138 | 217 => 126 | 225 => 109 | 224 => 108 | 267 => 139 | 266 => 137 | 314 => 150 | n => n, fun | 9 => 9 | 3 => 3 | 31 => 22 | 4 => 4 | 0 => 0 | 105 => 165 | 21 => 21 | 5 => 5 | 46 => 143 | 119 => 73 | 139 => 192 | 138 => 191 | 146 => 193 | 51 => 100 | n => n, fun | 1 => 2 | 3 => 3 | 4 => 4 | n => n⟩
theorem Tryz.lays221 : Go.Proofs.Lays.n221 Tryz.prog Tryz.lays221_ren := {
  mixed := by kernel_rfl
  f138 := Tryz.func111.trans (congrArg some (by kernel_rfl))
  f143 := Tryz.func112.trans (congrArg some (by kernel_rfl))
  f195 := Tryz.func127.trans (congrArg some (by kernel_rfl))
  f197 := Tryz.func128.trans (congrArg some (by kernel_rfl))
  f217 := Tryz.func126.trans (congrArg some (by kernel_rfl))
  f218 := Tryz.func129.trans (congrArg some (by kernel_rfl))
  f219 := Tryz.func130.trans (congrArg some (by kernel_rfl))
  f221 := Tryz.func95.trans (congrArg some (by kernel_rfl))
  f224 := Tryz.func108.trans (congrArg some (by kernel_rfl))
  f225 := Tryz.func109.trans (congrArg some (by kernel_rfl))
  f260 := Tryz.func138.trans (congrArg some (by kernel_rfl))
  f266 := Tryz.func137.trans (congrArg some (by kernel_rfl))
  f267 := Tryz.func139.trans (congrArg some (by kernel_rfl))
  f268 := Tryz.func110.trans (congrArg some (by kernel_rfl))
  f314 := Tryz.func150.trans (congrArg some (by kernel_rfl))
  t0 := Tryz.underlying0
  a0 := Tryz.isAgg0
  z0 := Tryz.sizeOf0
  v0 := Tryz.zeroValue0
  t3 := Tryz.underlying3
  a3 := Tryz.isAgg3
  z3 := Tryz.sizeOf3
  v3 := Tryz.zeroValue3
  t4 := Tryz.underlying4
  a4 := Tryz.isAgg4
  z4 := Tryz.sizeOf4
  v4 := Tryz.zeroValue4
  t5 := Tryz.underlying5
  a5 := Tryz.isAgg5
  z5 := Tryz.sizeOf5
  v5 := Tryz.zeroValue5
  t9 := Tryz.underlying9
  a9 := Tryz.isAgg9
  z9 := Tryz.sizeOf9
  v9 := Tryz.zeroValue9
  t21 := Tryz.underlying21
  a21 := Tryz.isAgg21
  z21 := Tryz.sizeOf21
  v21 := Tryz.zeroValue21
  t31 := Tryz.underlying22
  a31 := Tryz.isAgg22
  z31 := Tryz.sizeOf22
  v31 := Tryz.zeroValue22
  t46 := Tryz.underlying143
  a46 := Tryz.isAgg143
  z46 := Tryz.sizeOf143
  v46 := Tryz.zeroValue143
  t51 := Tryz.underlying100
  a51 := Tryz.isAgg100
  z51 := Tryz.sizeOf100
  v51 := Tryz.zeroValue100
  t105 := Tryz.underlying165
  a105 := Tryz.isAgg165
  z105 := Tryz.sizeOf165
  v105 := Tryz.zeroValue165
  t119 := Tryz.underlying73
  a119 := Tryz.isAgg73
  z119 := Tryz.sizeOf73
  t138 := Tryz.underlying191
  a138 := Tryz.isAgg191
  z138 := Tryz.sizeOf191
  v138 := Tryz.zeroValue191
  t139 := Tryz.underlying192
  a139 := Tryz.isAgg192
  z139 := Tryz.sizeOf192
  v139 := Tryz.zeroValue192
  t146 := Tryz.underlying193
  a146 := Tryz.isAgg193
  z146 := Tryz.sizeOf193
  v146 := Tryz.zeroValue193
  g1 := by kernel_rfl
  g3 := by kernel_rfl
  g4 := by kernel_rfl }
def Tryz.laysM157_ren : Go.Shelf.Ren := ⟨fun | 157 => 35 | 229 => 56 | 199 => 57 | 261 => 85 | 311 => 100 | 312 => 101 | n => n, fun | 9 => 9 | 31 => 22 | 3 => 3 | 5 => 5 | 4 => 4 | 119 => 73 | 0 => 0 | 40 => 75 | 152 => 97 | 21 => 21 | 154 => 99 | 51 => 100 | 141 => 102 | 196 => 132 | 193 => 129 | 198 => 135 | 49 => 133 | 194 => 130 | 201 => 138 | 226 => 149 | 46 => 143 | 227 => 150 | n => n, fun | 0 => 0 | 6 => 1 | n => n⟩
theorem Tryz.laysM157 : Go.Proofs.LaysM.n157 Tryz.prog Tryz.laysM157_ren := {
  mixed := by kernel_rfl
  f157 := Tryz.func35.trans (congrArg some (by kernel_rfl))
  f199 := Tryz.func57.trans (congrArg some (by kernel_rfl))
  f229 := Tryz.func56.trans (congrArg some (by kernel_rfl))
  f261 := Tryz.func85.trans (congrArg some (by kernel_rfl))
  f311 := Tryz.func100.trans (congrArg some (by kernel_rfl))
  f312 := Tryz.func101.trans (congrArg some (by kernel_rfl))
  t0 := Tryz.underlying0
  a0 := Tryz.isAgg0
  z0 := Tryz.sizeOf0
  v0 := Tryz.zeroValue0
  t3 := Tryz.underlying3
  a3 := Tryz.isAgg3
  z3 := Tryz.sizeOf3
  v3 := Tryz.zeroValue3
  t4 := Tryz.underlying4
  a4 := Tryz.isAgg4
  z4 := Tryz.sizeOf4
  v4 := Tryz.zeroValue4
  t5 := Tryz.underlying5
  a5 := Tryz.isAgg5
  z5 := Tryz.sizeOf5
  v5 := Tryz.zeroValue5
  t9 := Tryz.underlying9
  a9 := Tryz.isAgg9
  z9 := Tryz.sizeOf9
  v9 := Tryz.zeroValue9
  t21 := Tryz.underlying21
  a21 := Tryz.isAgg21
  z21 := Tryz.sizeOf21
  v21 := Tryz.zeroValue21
  t31 := Tryz.underlying22
  a31 := Tryz.isAgg22
  z31 := Tryz.sizeOf22
  v31 := Tryz.zeroValue22
  t40 := Tryz.underlying75
  a40 := Tryz.isAgg75
  z40 := Tryz.sizeOf75
  v40 := Tryz.zeroValue75
  t46 := Tryz.underlying143
  a46 := Tryz.isAgg143
  z46 := Tryz.sizeOf143
  v46 := Tryz.zeroValue143
  t49 := Tryz.underlying133
  a49 := Tryz.isAgg133
  z49 := Tryz.sizeOf133
  v49 := Tryz.zeroValue133
  t51 := Tryz.underlying100
  a51 := Tryz.isAgg100
  z51 := Tryz.sizeOf100
  v51 := Tryz.zeroValue100
  t119 := Tryz.underlying73
  a119 := Tryz.isAgg73
  z119 := Tryz.sizeOf73
  t141 := Tryz.underlying102
  a141 := Tryz.isAgg102
  z141 := Tryz.sizeOf102
  v141 := Tryz.zeroValue102
  t152 := Tryz.underlying97
  a152 := Tryz.isAgg97
  z152 := Tryz.sizeOf97
  v152 := Tryz.zeroValue97
  t154 := Tryz.underlying99
  a154 := Tryz.isAgg99
  z154 := Tryz.sizeOf99
  v154 := Tryz.zeroValue99
  t193 := Tryz.underlying129
  a193 := Tryz.isAgg129
  z193 := Tryz.sizeOf129
  v193 := Tryz.zeroValue129
  t194 := Tryz.underlying130
  a194 := Tryz.isAgg130
  z194 := Tryz.sizeOf130
  v194 := Tryz.zeroValue130
  t196 := Tryz.underlying132
  a196 := Tryz.isAgg132
  z196 := Tryz.sizeOf132
  v196 := Tryz.zeroValue132
  t198 := Tryz.underlying135
  a198 := Tryz.isAgg135
  z198 := Tryz.sizeOf135
  v198 := Tryz.zeroValue135
  t201 := Tryz.underlying138
  a201 := Tryz.isAgg138
  z201 := Tryz.sizeOf138
  v201 := Tryz.zeroValue138
  t226 := Tryz.underlying149
  a226 := Tryz.isAgg149
  z226 := Tryz.sizeOf149
  v226 := Tryz.zeroValue149
  t227 := Tryz.underlying150
  a227 := Tryz.isAgg150
  z227 := Tryz.sizeOf150
  v227 := Tryz.zeroValue150
  g0 := by kernel_rfl
  g6 := by kernel_rfl
  i0 := by kernel_rfl
  i3 := by kernel_rfl
  i4 := by kernel_rfl
  i5 := by kernel_rfl
  i9 := by kernel_rfl
  i21 := by kernel_rfl
  i31 := by kernel_rfl
  i40 := by kernel_rfl
  i46 := by kernel_rfl
  i49 := by kernel_rfl
  i51 := by kernel_rfl
  i141 := by kernel_rfl
  i152 := by kernel_rfl
  i154 := by kernel_rfl
  i193 := by kernel_rfl
  i194 := by kernel_rfl
  i196 := by kernel_rfl
  i198 := by kernel_rfl
  i201 := by kernel_rfl
  i226 := by kernel_rfl
  i227 := by kernel_rfl
  m0 := by kernel_rfl
  m6 := by kernel_rfl }
open Go.RowKit Go.Lib in
theorem Tryz.strings_Fields_laid (s : ByteArray) (w : World) (hs : s.size < 4294967281) (hascii : ∀ (j : Nat) b, s.data.toList[j]? = some b → b.toNat < 128) (htab : Lib.TabIs Tryz.prog w "strings.asciiSpace" .u8 Lib.asciiSpaceTab) :
    Calls Tryz.prog 35 #[.string s] w fun e w' =>
      e = .returned (.slice (some ⟨w.heap.size, 0, none⟩) (Lib.fields s.data.toList).length (Lib.fields s.data.toList).length) ∧ w' = w.alloc (.cells ((Lib.fields s.data.toList).map fun l => Value.string ⟨l.toArray⟩).toArray 9) := Any.strings_Fields_laid Tryz.laysM157 s w hs hascii htab
def Tryz.lays152_ren : Go.Shelf.Ren := ⟨fun | 152 => 91 | 137 => 106 | 119 => 107 | 224 => 108 | 225 => 109 | 217 => 126 | 266 => 137 | n => n, fun | 9 => 9 | 21 => 21 | 3 => 3 | 4 => 4 | 5 => 5 | 0 => 0 | 46 => 143 | n => n, fun | n => n⟩
theorem Tryz.lays152 : Go.Proofs.Lays.n152 Tryz.prog Tryz.lays152_ren := {
  mixed := by kernel_rfl
  f119 := Tryz.func107.trans (congrArg some (by kernel_rfl))
  f137 := Tryz.func106.trans (congrArg some (by kernel_rfl))
  f152 := Tryz.func91.trans (congrArg some (by kernel_rfl))
  f217 := Tryz.func126.trans (congrArg some (by kernel_rfl))
  f224 := Tryz.func108.trans (congrArg some (by kernel_rfl))
  f225 := Tryz.func109.trans (congrArg some (by kernel_rfl))
  f266 := Tryz.func137.trans (congrArg some (by kernel_rfl))
  t0 := Tryz.underlying0
  a0 := Tryz.isAgg0
  z0 := Tryz.sizeOf0
  v0 := Tryz.zeroValue0
  t3 := Tryz.underlying3
  a3 := Tryz.isAgg3
  z3 := Tryz.sizeOf3
  v3 := Tryz.zeroValue3
  t4 := Tryz.underlying4
  a4 := Tryz.isAgg4
  z4 := Tryz.sizeOf4
  v4 := Tryz.zeroValue4
  t5 := Tryz.underlying5
  a5 := Tryz.isAgg5
  z5 := Tryz.sizeOf5
  v5 := Tryz.zeroValue5
  t9 := Tryz.underlying9
  a9 := Tryz.isAgg9
  z9 := Tryz.sizeOf9
  v9 := Tryz.zeroValue9
  t21 := Tryz.underlying21
  a21 := Tryz.isAgg21
  z21 := Tryz.sizeOf21
  v21 := Tryz.zeroValue21
  t46 := Tryz.underlying143
  a46 := Tryz.isAgg143
  z46 := Tryz.sizeOf143
  v46 := Tryz.zeroValue143 }
open Go.RowKit Go.Lib in
theorem Tryz.strings_IndexRune_ascii (s : ByteArray) (r : Int) (w : World) (h0 : 0 ≤ r) (h1 : r < 128) :
    Calls Tryz.prog 91 #[.string s, .int .i32 r] w fun e w' => e = .returned (.int .i64 (Lib.indexByte s.data.toList r.toNat.toUInt8)) ∧ w' = w := Any.strings_IndexRune_ascii Tryz.lays152 s r w h0 h1
def Tryz.lays226_ren : Go.Shelf.Ren := ⟨fun | 226 => 92 | n => n, fun | 3 => 3 | 4 => 4 | n => n, fun | n => n⟩
theorem Tryz.lays226 : Go.Proofs.Lays.n226 Tryz.prog Tryz.lays226_ren := {
  mixed := by kernel_rfl
  f226 := Tryz.func92.trans (congrArg some (by kernel_rfl))
  t3 := Tryz.underlying3
  a3 := Tryz.isAgg3
  z3 := Tryz.sizeOf3
  v3 := Tryz.zeroValue3
  t4 := Tryz.underlying4
  a4 := Tryz.isAgg4
  z4 := Tryz.sizeOf4
  v4 := Tryz.zeroValue4 }
open Go.RowKit Go.Lib in
theorem Tryz.strings_shouldUseASCIISet (n : Int) (w : World) :
    Calls Tryz.prog 92 #[.int .i64 n] w fun e w' => e = .returned (.bool (decide (8 < n))) ∧ w' = w := Any.strings_shouldUseASCIISet Tryz.lays226 n w
def Tryz.lays153_ren : Go.Shelf.Ren := ⟨fun | 153 => 74 | 152 => 91 | 226 => 92 | 227 => 93 | 228 => 94 | 137 => 106 | 119 => 107 | 224 => 108 | 225 => 109 | 217 => 126 | 266 => 137 | n => n, fun | 9 => 9 | 3 => 3 | 4 => 4 | 5 => 5 | 21 => 21 | 117 => 122 | 116 => 121 | 0 => 0 | 46 => 143 | 124 => 144 | n => n, fun | n => n⟩
theorem Tryz.lays153 : Go.Proofs.Lays.n153 Tryz.prog Tryz.lays153_ren := {
  mixed := by kernel_rfl
  f119 := Tryz.func107.trans (congrArg some (by kernel_rfl))
  f137 := Tryz.func106.trans (congrArg some (by kernel_rfl))
  f152 := Tryz.func91.trans (congrArg some (by kernel_rfl))
  f153 := Tryz.func74.trans (congrArg some (by kernel_rfl))
  f217 := Tryz.func126.trans (congrArg some (by kernel_rfl))
  f224 := Tryz.func108.trans (congrArg some (by kernel_rfl))
  f225 := Tryz.func109.trans (congrArg some (by kernel_rfl))
  f226 := Tryz.func92.trans (congrArg some (by kernel_rfl))
  f227 := Tryz.func93.trans (congrArg some (by kernel_rfl))
  f228 := Tryz.func94.trans (congrArg some (by kernel_rfl))
  f266 := Tryz.func137.trans (congrArg some (by kernel_rfl))
  t0 := Tryz.underlying0
  a0 := Tryz.isAgg0
  z0 := Tryz.sizeOf0
  v0 := Tryz.zeroValue0
  t3 := Tryz.underlying3
  a3 := Tryz.isAgg3
  z3 := Tryz.sizeOf3
  v3 := Tryz.zeroValue3
  t4 := Tryz.underlying4
  a4 := Tryz.isAgg4
  z4 := Tryz.sizeOf4
  v4 := Tryz.zeroValue4
  t5 := Tryz.underlying5
  a5 := Tryz.isAgg5
  z5 := Tryz.sizeOf5
  v5 := Tryz.zeroValue5
  t9 := Tryz.underlying9
  a9 := Tryz.isAgg9
  z9 := Tryz.sizeOf9
  v9 := Tryz.zeroValue9
  t21 := Tryz.underlying21
  a21 := Tryz.isAgg21
  z21 := Tryz.sizeOf21
  v21 := Tryz.zeroValue21
  t46 := Tryz.underlying143
  a46 := Tryz.isAgg143
  z46 := Tryz.sizeOf143
  v46 := Tryz.zeroValue143
  t116 := Tryz.underlying121
  a116 := Tryz.isAgg121
  z116 := Tryz.sizeOf121
  t117 := Tryz.underlying122
  a117 := Tryz.isAgg122
  z117 := Tryz.sizeOf122
  v117 := Tryz.zeroValue122
  t124 := Tryz.underlying144
  a124 := Tryz.isAgg144
  z124 := Tryz.sizeOf144
  v124 := Tryz.zeroValue144 }
open Go.RowKit Go.Lib in
theorem Tryz.strings_IndexAny_long (hv116 : ∀ w, (zeroValue 121).run Tryz.prog w = .ok (.agg (Array.replicate 256 (.bool false))) w) (s chars : ByteArray) (w : World) (h2 : 2 ≤ chars.size) (h8 : 8 < s.size) (hs : s.size < 4294967281) (hcs : chars.size < 4294967281) (hascii : ∀ (j : Nat) b, chars.data.toList[j]? = some b → b.toNat < 128) :
    Calls Tryz.prog 74 #[.string s, .string chars] w fun e w' => e = .returned (.int .i64 (Lib.indexAny s.data.toList chars.data.toList)) ∧ w' = ((w.alloc (.cells (Lib.setCells chars.data.toList) 121)).alloc (.cells (Lib.setCells chars.data.toList) 121)) := Any.strings_IndexAny_long Tryz.lays153 hv116 (by kernel_rfl) s chars w h2 h8 hs hcs hascii
def Tryz.lays110_ren : Go.Shelf.Ren := ⟨fun | 110 => 76 | 109 => 96 | n => n, fun | 31 => 22 | 9 => 9 | 4 => 4 | 3 => 3 | 0 => 0 | n => n, fun | n => n⟩
theorem Tryz.lays110 : Go.Proofs.Lays.n110 Tryz.prog Tryz.lays110_ren := {
  mixed := by kernel_rfl
  f109 := Tryz.func96.trans (congrArg some (by kernel_rfl))
  f110 := Tryz.func76.trans (congrArg some (by kernel_rfl))
  t0 := Tryz.underlying0
  a0 := Tryz.isAgg0
  z0 := Tryz.sizeOf0
  v0 := Tryz.zeroValue0
  t3 := Tryz.underlying3
  a3 := Tryz.isAgg3
  z3 := Tryz.sizeOf3
  v3 := Tryz.zeroValue3
  t4 := Tryz.underlying4
  a4 := Tryz.isAgg4
  z4 := Tryz.sizeOf4
  v4 := Tryz.zeroValue4
  t9 := Tryz.underlying9
  a9 := Tryz.isAgg9
  z9 := Tryz.sizeOf9
  v9 := Tryz.zeroValue9
  t31 := Tryz.underlying22
  a31 := Tryz.isAgg22
  z31 := Tryz.sizeOf22
  v31 := Tryz.zeroValue22 }
open Go.Lib in
theorem Tryz.slices_Contains_string (b off n c : Nat) (zs : List ByteArray) (x : ByteArray) (w : World) (hz : n ≤ zs.length) (hbig : n ≤ 9223372036854775807) (hc : ∀ j, j < zs.length → w.cell? ⟨b, off + j, none⟩ = some (.string (zs.getD j ByteArray.empty))) :
    Calls Tryz.prog 76 #[.slice (some ⟨b, off, none⟩) n c, .string x] w fun e w' => e = .returned (.bool (Lib.containsS (zs.take n) x)) ∧ w' = w := Any.slices_Contains_string Tryz.lays110 b off n c zs x w hz hbig hc
end Go.Proofs
set_option linter.unusedVariables false
set_option linter.unusedSimpArgs false
namespace Go.Proofs.YtlglbpjccpdloaaGreatDoor.Ext
open Go.RowKit Go.Proofs.YtlglbpjccpdloaaGreatDoorW.PrintWords Go.Proofs.YtlglbpjccpdloaaGreatDoorW.PrintLast
def bn (s : ByteArray) (i : Nat) : Nat := if h : i < s.size then (s[i]'h).toNat else 0
theorem bn_at (s : ByteArray) (i : Nat) (h : i < s.size) : (s[i]'h).toNat = bn s i := by simp [bn, h]
def parseN : Nat → ByteArray → Nat → Nat → Option Nat
  | 0, _, _, n => some n
  | f + 1, s, i, n => if i < s.size then (if bn s i < 48 ∨ 57 < bn s i ∨ (0 < i ∧ n = 0) ∨ 13 < i then none else parseN f s (i + 1) (10 * n + (bn s i - 48))) else some n
def tickParse (s : ByteArray) : Int × Int :=
  match parseN s.size s 0 0 with
  | none => (0, 10)
  | some n => if s.size = 0 ∨ 1099511627776 < n then (0, 10) else (n, 0)
def tick_Parse.f (a0 : ByteArray) : Option (Int × Int) := some (tickParse a0)
theorem toList_len (a : ByteArray) : a.toList.length = a.size := by
  rw [ByteArray.toList_eq]
  cases a
  rfl
theorem toList_isEmpty (a : ByteArray) : a.toList.isEmpty = decide (a.size = 0) := by
  rw [← toList_len]
  cases a.toList <;> simp
def ParseR (s : ByteArray) (w : World) (n : Value) (wr : World) : Prop :=
  ∃ (k m : Nat), k ≤ s.size ∧ wr = w.iter s k ∧ n = .int .i64 m ∧ m < 10 ^ k ∧ k ≤ 14 ∧ parseN (s.size - k) s k m = parseN s.size s 0 0
theorem right_any (at_ : Int) (w : World) :
    Calls Tryz.prog 73 #[.int .i64 at_] w fun e w' => e = .returned (.bool (decide (0 ≤ at_) && decide (at_ ≤ 1099511627776))) ∧ w = w' := by
  by_cases h : 0 ≤ at_
  all_goals
    go_enter Tryz.func73, Tryz.ntmps73
    go_wp2
    go_ret
    exact ⟨by first | (simp [h]; done) | (simp; omega), rfl⟩
set_option maxRecDepth 100000 in
theorem tick_Parse.calls (a0 : ByteArray) (r1 r2 : Int) (w : World) (h : tick_Parse.f a0 = some (r1, r2)) :
    Calls Tryz.prog 49 #[.string a0] w fun e w' => e = .returned (.tuple #[.int .i64 r1, .int .i64 r2]) ∧ Below w.heap.size w w' := by
  have hbi : ∀ p, Below w.heap.size w (w.iter a0 p) := fun p => (Below.refl _ w).alloc (Nat.le_refl _) _
  have HBI := Lib.hid hbi
  have HF := Lib.hid (Option.some.inj h)
  clear h hbi
  go_enter Tryz.func49, Tryz.ntmps49
  go_wp2_with fail
  go_loopw [4] (fun n wr => ParseR a0 w n wr) (fun _ wr => a0.size - wr.iterPos w.heap.size)
  case atStart => exact ⟨0, 0, Nat.zero_le _, rfl, rfl, by simp, by omega, rfl⟩
  case round =>
    obtain ⟨k, m, hk, rfl, rfl, hm, hk14, hp⟩ := hrel
    have HP := Lib.hid hp
    have hm14 : m < 100000000000000 := Nat.lt_of_lt_of_le hm (by have := Nat.pow_le_pow_right (show 0 < 10 by omega) hk14; simpa using this)
    have HM := Lib.hid hm
    clear hp hm
    by_cases hkl : k < a0.size
    · have hnx : ∀ ty, (Instr.next (.pointer (some ⟨w.heap.size, 0, none⟩)) true ty).run Tryz.prog (w.iter a0 k) = _ := fun ty => run_next_any w a0 k ty hkl
      by_cases hbad : bn a0 k < 48 ∨ 57 < bn a0 k ∨ (0 < k ∧ m = 0) ∨ 13 < k
      · have hres : tickParse a0 = (0, 10) := by
          have hpk := HP.out
          obtain ⟨f, hf⟩ : ∃ f, a0.size - k = f + 1 := ⟨a0.size - k - 1, by omega⟩
          rw [hf, parseN, if_pos hkl, if_pos hbad] at hpk
          unfold tickParse
          rw [← hpk]
        have hr := HF.out
        rw [hres] at hr
        obtain ⟨rfl, rfl⟩ := Prod.mk.inj hr
        clear hr hres
        obtain ⟨r, hr⟩ : ∃ r, (Utf8.decode a0 k).1 = r := ⟨_, rfl⟩
        have hrb : r < 48 ∨ 57 < r ∨ (48 ≤ r ∧ r ≤ 57 ∧ ((0 < k ∧ m = 0) ∨ 13 < k)) := by
          by_cases hlt : (a0[k]'hkl).toNat < 128
          · have := decode_ascii a0 k hkl hlt
            rw [this] at hr
            simp only at hr
            rw [bn_at] at hr
            omega
          · have := (decode_high a0 k hkl (by omega)).1
            omega
        have hr31 : r ≤ 2147483647 := by have := decode_le a0 k; omega
        rw [hr] at hnx
        have HR := Lib.hid hr
        clear hr hbad
        rcases hrb with h1 | h1 | ⟨h1, h2, h3⟩
        · have q1 : (r : Int) < 48 := by omega
          clear h1
          go_wp2_with fail
          go_ret2
          exact ⟨rfl, HBI.out _⟩
        · have q1 : ¬ (r : Int) < 48 := by omega
          have q2 : (57 : Int) < (r : Int) := by omega
          clear h1
          go_wp2_with fail
          go_ret2
          exact ⟨rfl, HBI.out _⟩
        · have q1 : ¬ (r : Int) < 48 := by omega
          have q2 : ¬ (57 : Int) < (r : Int) := by omega
          clear h1 h2
          by_cases hk0 : 0 < k
          · by_cases hm0 : m = 0
            · have q3 : (0 : Int) < (k : Int) := by omega
              have q4 : ((m : Int) == 0) = true := by simp [hm0]
              have HM0 := Lib.hid hm0
              clear h3 hm0 hk0
              go_wp2_with fail
              go_ret2
              exact ⟨rfl, HBI.out _⟩
            · have q3 : (0 : Int) < (k : Int) := by omega
              have q4 : ((m : Int) == 0) = false := by simp; omega
              have q5 : (13 : Int) < (k : Int) := by omega
              clear h3 hm0 hk0
              go_wp2_with fail
              go_ret2
              exact ⟨rfl, HBI.out _⟩
          · omega
      · have hgood : 48 ≤ bn a0 k ∧ bn a0 k ≤ 57 ∧ (0 < k → m ≠ 0) ∧ k ≤ 13 := by omega
        obtain ⟨r, hr⟩ : ∃ r, bn a0 k = r := ⟨_, rfl⟩
        have hdec : Utf8.decode a0 k = (r, 1) := by
          rw [decode_ascii a0 k hkl (by rw [bn_at]; omega), bn_at, hr]
        rw [hdec] at hnx
        simp only at hnx
        rw [hr] at hgood
        obtain ⟨g1, g2, g3, g4⟩ := hgood
        have hstep : parseN (a0.size - (k + 1)) a0 (k + 1) (10 * m + (r - 48)) = parseN a0.size a0 0 0 := by
          have hpk := HP.out
          rw [show a0.size - k = (a0.size - (k + 1)) + 1 by omega, parseN, if_pos hkl, if_neg hbad, hr] at hpk
          exact hpk
        have HSTEP := Lib.hid hstep
        have HRR := Lib.hid hr
        clear hstep hbad hdec hr
        have q1 : ¬ (r : Int) < 48 := by omega
        have q2 : ¬ (57 : Int) < (r : Int) := by omega
        have q5 : ¬ (13 : Int) < (k : Int) := by omega
        by_cases hk0 : 0 < k
        · have q3 : (0 : Int) < (k : Int) := by omega
          have q4 : ((m : Int) == 0) = false := by have := g3 hk0; simp; omega
          clear g3
          go_wp2_with fail
          go_roundw
          all_goals go_goals
          · exact ⟨k + 1, 10 * m + (r - 48), by omega, rfl, by congr 1; omega, by have := HM.out; rw [Nat.pow_succ]; omega, by omega, HSTEP.out⟩
          · simp only [World.iterPos_iter]; omega
        · have q3 : ¬ (0 : Int) < (k : Int) := by omega
          clear g3
          go_wp2_with fail
          go_roundw
          all_goals go_goals
          · exact ⟨k + 1, 10 * m + (r - 48), by omega, rfl, by congr 1; omega, by have := HM.out; rw [Nat.pow_succ]; omega, by omega, HSTEP.out⟩
          · simp only [World.iterPos_iter]; omega
    · have hk' : k = a0.size := by omega
      subst hk'
      have hne : ∀ ty, (Instr.next (.pointer (some ⟨w.heap.size, 0, none⟩)) true ty).run Tryz.prog (w.iter a0 a0.size) = _ := fun ty => run_next_end w a0 a0.size ty (Nat.lt_irrefl _)
      have hres : tickParse a0 = if a0.size = 0 ∨ 1099511627776 < m then (0, 10) else ((m : Int), 0) := by
        have := HP.out
        rw [show a0.size - a0.size = 0 by omega, parseN] at this
        unfold tickParse
        rw [← this]
      have HRES := Lib.hid hres
      clear hres
      by_cases h0 : a0.size = 0
      · have hr := HRES.out
        rw [if_pos (.inl h0), HF.out] at hr
        obtain ⟨rfl, rfl⟩ := Prod.mk.inj hr
        have hs0 : a0.toList = [] := List.eq_nil_of_length_eq_zero (by rw [toList_len]; exact h0)
        clear hr h0
        go_wp2_with fail
        go_ret2
        exact ⟨rfl, HBI.out _⟩
      · have hs0 : a0.toList.isEmpty = false := by rw [toList_isEmpty]; simp [h0]
        have HH0 := Lib.hid h0
        clear h0
        by_cases hbig : 1099511627776 < m
        · have hr := HRES.out
          rw [if_pos (.inr hbig), HF.out] at hr
          obtain ⟨rfl, rfl⟩ := Prod.mk.inj hr
          have hb : (decide ((0 : Int) ≤ (m : Int)) && decide ((m : Int) ≤ 1099511627776)) = false := by simp; omega
          have HRA := Lib.hid (fun w => right_any (m : Int) w)
          rw [hb] at HRA
          clear hr hb hbig
          go_wp2_with (first | (refine (HRA.out _).mono ?_; rintro e w1 ⟨rfl, rfl⟩) | fail)
          go_ret2
          exact ⟨rfl, HBI.out _⟩
        · have hr := HRES.out
          rw [if_neg (by have := HH0.out; omega), HF.out] at hr
          obtain ⟨rfl, rfl⟩ := Prod.mk.inj hr
          have hb : (decide ((0 : Int) ≤ (m : Int)) && decide ((m : Int) ≤ 1099511627776)) = true := by simp; omega
          have HRA := Lib.hid (fun w => right_any (m : Int) w)
          rw [hb] at HRA
          clear hr hb hbig
          go_wp2_with (first | (refine (HRA.out _).mono ?_; rintro e w1 ⟨rfl, rfl⟩) | fail)
          go_ret2
          exact ⟨rfl, HBI.out _⟩
end Go.Proofs.YtlglbpjccpdloaaGreatDoor.Ext
set_option linter.unusedVariables false
set_option linter.unusedSimpArgs false
namespace Go.Proofs.YtlglbpjccpdloaaGreatDoor.Ext
open Go.RowKit Go.Proofs.YtlglbpjccpdloaaGreatDoorW.PrintWords Go.Proofs.YtlglbpjccpdloaaGreatDoorW.PrintLast
def dg (n : Nat) : ByteArray := ⟨#[UInt8.ofNat (48 + n)]⟩
def textN : Nat → Nat → ByteArray
  | 0, n => dg n
  | f + 1, n => if n < 10 then dg n else textN f (n / 10) ++ dg (n % 10)
def nearN (a : Int) : Nat := (min (max a 0) 1099511627776).toNat
def tickText (a : Int) : ByteArray := textN 14 (nearN a)
def tick_Text.f (a0 : Int) : Option ByteArray := some (tickText a0)
theorem textN_small (f n : Nat) (h : n < 10) : textN f n = dg n := by
  cases f with
  | zero => rfl
  | succ f => simp [textN, h]
theorem textN_size (f : Nat) : ∀ n, (textN f n).size ≤ f + 1 := by
  induction f with
  | zero => intro n; exact Nat.le_refl _
  | succ f ih =>
    intro n
    unfold textN
    split
    · simp [dg, ByteArray.size]
    · rw [ByteArray.size_append]
      have := ih (n / 10)
      have : (dg (n % 10)).size = 1 := rfl
      omega
theorem near_any (at_ : Int) (w : World) :
    Calls Tryz.prog 58 #[.int .i64 at_] w fun e w' => e = .returned (.int .i64 (nearN at_ : Nat)) ∧ w = w' := by
  have h1 : ((nearN at_ : Nat) : Int) = if at_ < 0 then 0 else if 1099511627776 < at_ then 1099511627776 else at_ := by
    unfold nearN
    omega
  rw [h1]
  clear h1
  go_enter Tryz.func58, Tryz.ntmps58
  go_wp2
  all_goals go_ret
  all_goals first
    | exact ⟨rfl, rfl⟩
    | (refine ⟨congrArg (fun n => Ending.returned (.int .i64 n)) ?_, rfl⟩; omega)
set_option maxRecDepth 100000 in
theorem run_digit (n : Nat) (h : n < 10) (w : World) : (convert 21 9 (.int .i32 (48 + (n : Int)))).run Tryz.prog w = .ok (.string (dg n)) w := by
  have : n = 0 ∨ n = 1 ∨ n = 2 ∨ n = 3 ∨ n = 4 ∨ n = 5 ∨ n = 6 ∨ n = 7 ∨ n = 8 ∨ n = 9 := by omega
  rcases this with rfl | rfl | rfl | rfl | rfl | rfl | rfl | rfl | rfl | rfl <;> rfl
theorem text_small (a : Int) (w : World) (hn10 : nearN a < 10) :
    Calls Tryz.prog 36 #[.int .i64 a] w fun e w' => e = .returned (.string (dg (nearN a))) ∧ Below w.heap.size w w' := by
  have HN := near_any a
  obtain ⟨n, hn⟩ : ∃ n, nearN a = n := ⟨_, rfl⟩
  rw [hn] at HN hn10
  rw [hn]
  have hlt : (n : Int) < 10 := by omega
  have q1 := run_digit n hn10
  clear hn
  go_enter Tryz.func36, Tryz.ntmps36
  go_wp2_with (first | (refine (HN _).mono ?_; rintro e w1 ⟨rfl, rfl⟩) | fail)
  go_ret
  exact ⟨rfl, Below.refl _ _⟩
theorem text_all (f : Nat) : ∀ (a : Int) (w : World), f ≤ 14 → nearN a < 10 ^ (f + 1) →
    Calls Tryz.prog 36 #[.int .i64 a] w fun e w' => e = .returned (.string (textN f (nearN a))) ∧ Below w.heap.size w w' := by
  induction f with
  | zero =>
    intro a w hf14 hf
    exact text_small a w (by simpa using hf)
  | succ f ih =>
    intro a w hf14 hf
    by_cases h10 : nearN a < 10
    · rw [textN_small _ _ h10]; exact text_small a w h10
    have HN := near_any a
    have hb : nearN a ≤ 1099511627776 := by unfold nearN; omega
    obtain ⟨n, hn⟩ : ∃ n, nearN a = n := ⟨_, rfl⟩
    rw [hn] at HN hf h10 hb
    rw [hn]
    have e1 : (n : Int) / 10 = ((n / 10 : Nat) : Int) := by omega
    have n1 : nearN ((n / 10 : Nat) : Int) = n / 10 := by unfold nearN; omega
    have n2 : nearN ((n % 10 : Nat) : Int) = n % 10 := by unfold nearN; omega
    have IH1 := ih ((n / 10 : Nat) : Int)
    have IH2 := text_small ((n % 10 : Nat) : Int)
    rw [n1] at IH1
    rw [n2] at IH2
    have hp1 : n / 10 < 10 ^ (f + 1) := by rw [Nat.pow_succ] at hf; omega
    have C1 : ∀ w, Calls Tryz.prog 36 #[.int .i64 ((n : Int) / 10)] w fun e w' => e = .returned (.string (textN f (n / 10))) ∧ Below w.heap.size w w' := by
      intro w
      have : ((n : Int) / 10) = ((n / 10 : Nat) : Int) := by omega
      rw [this]
      exact IH1 w (by omega) hp1
    have C2 : ∀ w, Calls Tryz.prog 36 #[.int .i64 ((n : Int) % 10)] w fun e w' => e = .returned (.string (dg (n % 10))) ∧ Below w.heap.size w w' := by
      intro w
      have : ((n : Int) % 10) = ((n % 10 : Nat) : Int) := by omega
      rw [this]
      exact IH2 w (Nat.mod_lt _ (by omega))
    have hr : textN (f + 1) n = textN f (n / 10) ++ dg (n % 10) := by simp [textN, h10]
    rw [hr]
    have hlt : ¬ (n : Int) < 10 := by omega
    have hsz : ¬ 9223372036854775807 < (textN f (n / 10)).size + (dg (n % 10)).size := by
      have := textN_size f (n / 10)
      have : (dg (n % 10)).size = 1 := rfl
      omega
    clear hn IH1 IH2 hp1 n1 n2 ih hf hr e1
    go_enter Tryz.func36, Tryz.ntmps36
    go_wp2_with (first | (with_reducible refine (HN _).mono ?_; rintro e w1 ⟨rfl, rfl⟩) | (with_reducible refine (C1 _).mono ?_; rintro e w1 ⟨rfl, hb1⟩) | (with_reducible refine (C2 _).mono ?_; rintro e w2 ⟨rfl, hb2⟩) | fail)
    go_ret
    exact ⟨rfl, hb1.trans (hb2.mono hb1.size)⟩
theorem tick_Text.calls (a0 : Int) (r : ByteArray) (w : World) (h : tick_Text.f a0 = some r) :
    Calls Tryz.prog 36 #[.int .i64 a0] w fun e w' => e = .returned (.string r) ∧ Below w.heap.size w w' := by
  cases Option.some.inj h
  exact text_all 14 a0 w (by omega) (Nat.lt_of_le_of_lt (show nearN a0 ≤ 1099511627776 by unfold nearN; omega) (by decide))
end Go.Proofs.YtlglbpjccpdloaaGreatDoor.Ext
set_option linter.unusedVariables false
set_option linter.unusedSimpArgs false
namespace Go.Proofs.YtlglbpjccpdloaaGreatDoor.Ext
open Go.RowKit Go.Shelf Go.Proofs.YtlglbpjccpdloaaGreatDoorW.PrintWords Go.Proofs.YtlglbpjccpdloaaGreatDoorW.PrintLast
def blank : ByteArray := ⟨#[32]⟩
def parts (s : ByteArray) : List ByteArray := Lib.splitB blank 0 (Lib.countB s blank) s
def strings_Split.f (a0 a1 : ByteArray) : Option (List ByteArray) := if a1 = ⟨#[32]⟩ ∧ a0.size < 4294967281 then some (parts a0) else none
theorem reps_strings (w : World) (base : Nat) (ok : Nat → Prop) (xs : List ByteArray) : Reps (Kd.string.M w base ok) 1 xs (xs.map Value.string) := by
  refine ⟨by simp, fun j p hj => ?_⟩
  show _ = [Value.string p]
  have hl : j < xs.length := by
    rcases Nat.lt_or_ge j xs.length with h | h
    · exact h
    · rw [List.getElem?_eq_none h] at hj; cases hj
  have : (xs.map Value.string)[j]? = some (.string p) := by rw [List.getElem?_map, hj]; rfl
  rw [Nat.mul_one]
  have hd : (xs.map Value.string).drop j = Value.string p :: (xs.map Value.string).drop (j + 1) := by
    rw [List.drop_eq_getElem_cons (by simpa using hl)]
    congr 1
    rw [List.getElem?_eq_getElem (by simpa using hl)] at this
    exact Option.some.inj this
  rw [hd]
  rfl
theorem row_new (W : World) (xs : List ByteArray) (hm : xs.length ≤ 9223372036854775807) :
    Kd.R Kd.string 9 (W.alloc (.cells ((xs.map Value.string).toArray) 9)) W.heap.size (fun _ => True) (.slice (some ⟨W.heap.size, 0, none⟩) xs.length xs.length) xs :=
  ⟨fun _ _ => trivial, OwnRow.lit W W.heap.size (reps_strings _ _ _ xs) (Nat.le_refl _) hm⟩
theorem split_walk (s : ByteArray) (w : World) (hs : s.size < 4294967281) :
    Calls Tryz.prog 75 #[.string s, .string ⟨#[32]⟩] w fun e w' =>
      e = .returned (.slice (some ⟨w.heap.size, 0, none⟩) (parts s).length (parts s).length) ∧ w' = w.alloc (.cells ((parts s).map Value.string).toArray 9) := by
  have h1 : 1 ≤ blank.size := by decide
  have hle := Lib.countB_le blank h1 s.size s (Nat.le_refl _)
  have hlen := Lib.splitB_all blank h1 0 _ s rfl
  have c := Any.strings_genSplit_core Tryz.lays221 (by kernel_rfl) s blank 0 (-1) (Lib.countB s blank + 1) w hs h1 (Nat.zero_le _)
    (fun x c hx => ((Tryz.strings_Index_one x 32 (w.alloc (.cells c 9))).mono fun e w' ⟨he, hw⟩ => ⟨by rw [he]; show _ = Ending.returned (Value.int .i64 (Lib.index x.data.toList [32])); rw [Lib.index_one], hw⟩))
    ((Tryz.strings_Count_one s 32 w).mono fun e w' ⟨he, hw⟩ => ⟨by rw [he]; show _ = Ending.returned (Value.int .i64 ((Lib.count s.data.toList [32] : Nat) : Int)); rw [Lib.count_one]; rfl, hw⟩)
    (by decide) (by decide) (by rw [if_pos (by decide)]; omega)
  rw [Nat.add_sub_cancel] at c
  have e2 : Lib.cellsOf (Lib.splitB blank 0 (Lib.countB s blank) s) (Lib.countB s blank + 1) = ((Lib.splitB blank 0 (Lib.countB s blank) s).map Value.string).toArray := by rw [← hlen]; exact Lib.cellsOf_full _
  rw [e2] at c
  have hp : (parts s).length = Lib.countB s blank + 1 := hlen
  have C : Calls Tryz.prog 95 #[.string s, .string ⟨#[32]⟩, .int .i64 0, .int .i64 (-1)] w fun e w' => e = .returned (.slice (some ⟨w.heap.size, 0, none⟩) (parts s).length (parts s).length) ∧ w' = w.alloc (.cells ((parts s).map Value.string).toArray 9) := by
    refine Calls.mono c fun e w' ⟨he, hw⟩ => ⟨?_, hw⟩
    rw [he, ← hp]
    rfl
  clear c e2 hlen hle hp h1
  go_enter Tryz.func75, Tryz.ntmps75
  go_wp2_with (go_at_call 95; refine C.mono ?_; rintro e w' ⟨rfl, hw⟩; rw [hw])
  go_ret
  exact ⟨rfl, rfl⟩
def joined (l : List ByteArray) (sep : ByteArray) : ByteArray := ⟨(Lib.join (l.map (·.data.toList)) sep.data.toList).toArray⟩
def strings_Join.f (l0 : List ByteArray) (a1 : ByteArray) : Option ByteArray := if l0.length ≤ 140737488355328 ∧ (Lib.join (l0.map (·.data.toList)) a1.data.toList).length ≤ 140737488355328 then some (joined l0 a1) else none
theorem strings_Join.calls (A0 : Option Addr) (c0 : Nat) (l0 : List ByteArray) (a1 : ByteArray) (r : ByteArray) (w : World) (hr0 : Kd.C Kd.string w A0 l0.length l0) (hc0 : l0.length ≤ c0) (h : strings_Join.f l0 a1 = some r) :
    Calls Tryz.prog 52 #[.slice A0 l0.length c0, .string a1] w fun e w' => e = .returned (.string r) ∧ Below w.heap.size w w' := by
  unfold strings_Join.f at h
  split at h
  · rename_i hc
    obtain ⟨h1, h2⟩ := hc
    cases Option.some.inj h
    by_cases h0 : l0 = []
    · subst h0
      refine (Tryz.strings_Join_none A0 c0 a1 w).mono ?_
      rintro e w' ⟨rfl, rfl⟩
      exact ⟨rfl, Below.refl _ _⟩
    · have hl : 0 < l0.length := List.length_pos_iff.2 h0
      obtain ⟨ad, rfl, hcell⟩ := hr0.2.2 hl
      have hcells : ∀ (j : Nat) x, l0[j]? = some x → w.cell? (ad.add j) = some (.string x) := by
        intro j x hj
        obtain ⟨c, _, hK, hu⟩ := hcell j x hj
        have hK' : c = [Value.string x] := hK
        subst hK'
        have := hu 0 _ rfl
        have e : j * Kd.string.sz + 0 = j := by show j * 1 + 0 = j; omega
        rwa [e] at this
      have hz := hcells 0 _ (List.getElem?_eq_getElem hl)
      have hsp : ad.spot = none := by
        have : ad.add 0 = ad := by simp [Addr.add]
        rw [this] at hz
        unfold World.cell? at hz
        split at hz
        · split at hz
          · cases hz
          · rename_i h; simpa using h
        · cases hz
      have hbk : ad.block < w.heap.size := by
        have := World.block_lt_of_cell? _ _ hz
        simpa [Addr.add] using this
      have hadd : ∀ j, ad.add j = ⟨ad.block, ad.off + j, none⟩ := by
        intro j
        unfold Addr.add
        split
        · rename_i h; subst h; cases ad; simp at hsp; simp [hsp]
        · rfl
      have e : (some ad : Option Addr) = some ⟨ad.block, ad.off, none⟩ := by cases ad; simp at hsp; simp [hsp]
      rw [e]
      exact Tryz.strings_Join ad.block ad.off c0 l0 a1 w (fun j x hj => by rw [← hadd]; exact hcells j x hj) hbk h1 hc0 h2
  · cases h
end Go.Proofs.YtlglbpjccpdloaaGreatDoor.Ext
set_option linter.unusedVariables false
set_option linter.unusedSimpArgs false
namespace Go.Proofs.YtlglbpjccpdloaaGreatDoor.Ext
open Go.RowKit Go.Proofs.YtlglbpjccpdloaaGreatDoorW.PrintWords Go.Proofs.YtlglbpjccpdloaaGreatDoorW.PrintLast
def okN (r : Nat) : Bool := (97 ≤ r && r ≤ 122) || (48 ≤ r && r ≤ 57) || r == 95 || r == 45
def allN : Nat → ByteArray → Nat → Bool
  | 0, _, _ => true
  | f + 1, s, i => okN (bn s i) && allN f s (i + 1)
def nameOk (s : ByteArray) : Bool := allN s.size s 0 && decide (1 ≤ s.size) && decide (s.size ≤ 16)
def toxic_Name.f (a0 : ByteArray) : Option Bool := some (nameOk a0)
def NameR (s : ByteArray) (w : World) (wr : World) : Prop :=
  ∃ (k : Nat), k ≤ s.size ∧ wr = w.iter s k ∧ allN (s.size - k) s k = allN s.size s 0
theorem okN_iff (r : Nat) : okN r = true ↔ (97 ≤ r ∧ r ≤ 122) ∨ (48 ≤ r ∧ r ≤ 57) ∨ r = 95 ∨ r = 45 := by
  simp [okN, or_assoc]
set_option maxRecDepth 100000 in
theorem toxic_Name.calls (a0 : ByteArray) (r : Bool) (w : World) (h : toxic_Name.f a0 = some r) :
    Calls Tryz.prog 83 #[.string a0] w fun e w' => e = .returned (.bool r) ∧ Below w.heap.size w w' := by
  have hbi : ∀ p, Below w.heap.size w (w.iter a0 p) := fun p => (Below.refl _ w).alloc (Nat.le_refl _) _
  have HBI := Lib.hid hbi
  have HF := Lib.hid (Option.some.inj h)
  clear h hbi
  go_enter Tryz.func83, Tryz.ntmps83
  go_wp2_with fail
  go_loopw [] (fun wr => NameR a0 w wr) (fun wr => a0.size - wr.iterPos w.heap.size)
  case atStart => exact ⟨0, Nat.zero_le _, rfl, rfl⟩
  case round =>
    obtain ⟨k, hk, rfl, hp⟩ := hrel
    have HP := Lib.hid hp
    clear hp
    by_cases hkl : k < a0.size
    · have hnx : ∀ ty, (Instr.next (.pointer (some ⟨w.heap.size, 0, none⟩)) true ty).run Tryz.prog (w.iter a0 k) = _ := fun ty => run_next_any w a0 k ty hkl
      by_cases hbad : okN (bn a0 k) = false
      · have hres : nameOk a0 = false := by
          have hpk := HP.out
          obtain ⟨f, hf⟩ : ∃ f, a0.size - k = f + 1 := ⟨a0.size - k - 1, by omega⟩
          rw [hf, allN, hbad, Bool.false_and] at hpk
          unfold nameOk
          rw [← hpk]
          rfl
        have hr := HF.out
        rw [hres] at hr
        subst hr
        clear hres
        obtain ⟨r, hr⟩ : ∃ r, (Utf8.decode a0 k).1 = r := ⟨_, rfl⟩
        have hrb : okN r = false := by
          by_cases hlt : (a0[k]'hkl).toNat < 128
          · have := decode_ascii a0 k hkl hlt
            rw [this] at hr
            simp only at hr
            rw [bn_at] at hr
            rw [← hr]; exact hbad
          · have := (decode_high a0 k hkl (by omega)).1
            rw [Bool.eq_false_iff, ne_eq, okN_iff]
            omega
        have hr31 : r ≤ 2147483647 := by have := decode_le a0 k; omega
        rw [hr] at hnx
        have hcase : (r < 48 ∧ r ≠ 45) ∨ (57 < r ∧ r < 97 ∧ r ≠ 95) ∨ 122 < r := by
          rw [Bool.eq_false_iff, ne_eq, okN_iff] at hrb
          omega
        clear hr hbad hrb
        rcases hcase with ⟨h1, h2⟩ | ⟨h1, h2, h3⟩ | h1
        · have q1 : (r : Int) < 97 := by omega
          have q2 : (r : Int) < 48 := by omega
          have q3 : ((r : Int) != 45) = true := by simp; omega
          have q4 : ((r : Int) != 95) = true := by simp; omega
          clear h1 h2
          go_wp2_with fail
          all_goals go_ret
          all_goals exact ⟨rfl, HBI.out _⟩
        · have q1 : (r : Int) < 97 := by omega
          have q2 : ¬ (r : Int) < 48 := by omega
          have q5 : (57 : Int) < (r : Int) := by omega
          have q3 : ((r : Int) != 45) = true := by simp; omega
          have q4 : ((r : Int) != 95) = true := by simp; omega
          clear h1 h2 h3
          go_wp2_with fail
          all_goals go_ret
          all_goals exact ⟨rfl, HBI.out _⟩
        · have q1 : ¬ (r : Int) < 97 := by omega
          have q6 : (122 : Int) < (r : Int) := by omega
          have q2 : ¬ (r : Int) < 48 := by omega
          have q5 : (57 : Int) < (r : Int) := by omega
          have q3 : ((r : Int) != 45) = true := by simp; omega
          have q4 : ((r : Int) != 95) = true := by simp; omega
          clear h1
          go_wp2_with fail
          all_goals go_ret
          all_goals exact ⟨rfl, HBI.out _⟩
      · have hgood : okN (bn a0 k) = true := by simpa using hbad
        obtain ⟨r, hr⟩ : ∃ r, bn a0 k = r := ⟨_, rfl⟩
        have hstep : allN (a0.size - (k + 1)) a0 (k + 1) = allN a0.size a0 0 := by
          have hpk := HP.out
          rw [show a0.size - k = (a0.size - (k + 1)) + 1 by omega, allN, hgood, Bool.true_and] at hpk
          exact hpk
        rw [hr] at hgood
        have hg := (okN_iff r).1 hgood
        have hdec : Utf8.decode a0 k = (r, 1) := by
          rw [decode_ascii a0 k hkl (by rw [bn_at]; omega), bn_at, hr]
        rw [hdec] at hnx
        simp only at hnx
        have HSTEP := Lib.hid hstep
        have HRR := Lib.hid hr
        clear hstep hbad hdec hr hgood
        rcases hg with ⟨h1, h2⟩ | ⟨h1, h2⟩ | rfl | rfl
        · have q1 : ¬ (r : Int) < 97 := by omega
          have q6 : ¬ (122 : Int) < (r : Int) := by omega
          have q2 : ¬ (r : Int) < 48 := by omega
          have q5 : (57 : Int) < (r : Int) := by omega
          go_wp2_with fail
          go_roundw
          all_goals go_goals
          · exact ⟨k + 1, by omega, rfl, HSTEP.out⟩
          · simp only [World.iterPos_iter]; omega
        · have q1 : (r : Int) < 97 := by omega
          have q2 : ¬ (r : Int) < 48 := by omega
          have q5 : ¬ (57 : Int) < (r : Int) := by omega
          go_wp2_with fail
          go_roundw
          all_goals go_goals
          · exact ⟨k + 1, by omega, rfl, HSTEP.out⟩
          · simp only [World.iterPos_iter]; omega
        · go_wp2_with fail
          go_roundw
          all_goals go_goals
          · exact ⟨k + 1, by omega, rfl, HSTEP.out⟩
          · simp only [World.iterPos_iter]; omega
        · go_wp2_with fail
          go_roundw
          all_goals go_goals
          · exact ⟨k + 1, by omega, rfl, HSTEP.out⟩
          · simp only [World.iterPos_iter]; omega
    · have hk' : k = a0.size := by omega
      subst hk'
      have hne : ∀ ty, (Instr.next (.pointer (some ⟨w.heap.size, 0, none⟩)) true ty).run Tryz.prog (w.iter a0 a0.size) = _ := fun ty => run_next_end w a0 a0.size ty (Nat.lt_irrefl _)
      have hres : nameOk a0 = (decide (1 ≤ a0.size) && decide (a0.size ≤ 16)) := by
        have := HP.out
        rw [show a0.size - a0.size = 0 by omega, allN] at this
        unfold nameOk
        rw [← this, Bool.true_and]
      have hr := HF.out
      rw [hres] at hr
      subst hr
      clear hres
      by_cases h1 : 1 ≤ a0.size
      · have q1 : (1 : Int) ≤ (a0.size : Int) := by omega
        by_cases h2 : a0.size ≤ 16
        · have q2 : (a0.size : Int) ≤ 16 := by omega
          go_wp2_with fail
          go_ret
          exact ⟨by simp [h1, h2], HBI.out _⟩
        · have q2 : ¬ (a0.size : Int) ≤ 16 := by omega
          go_wp2_with fail
          go_ret
          exact ⟨by simp [h1, h2], HBI.out _⟩
      · have q1 : ¬ (1 : Int) ≤ (a0.size : Int) := by omega
        go_wp2_with fail
        go_ret
        exact ⟨by simp [h1], HBI.out _⟩
end Go.Proofs.YtlglbpjccpdloaaGreatDoor.Ext
set_option linter.unusedVariables false
set_option linter.unusedSimpArgs false
namespace Go.Proofs.YtlglbpjccpdloaaGreatDoor.Ext
open Go.RowKit Go.Shelf Go.Proofs.YtlglbpjccpdloaaGreatDoorW.PrintWords Go.Proofs.YtlglbpjccpdloaaGreatDoorW.PrintLast
def Tab (w : World) : Prop := Lib.TabIs Tryz.prog w "strings.asciiSpace" .u8 Lib.asciiSpaceTab
theorem tab_below {w w' : World} (h : Tab w) (hb : Below w.heap.size w w') : Tab w' :=
  TabIs_below (g := (Tryz.prog.globalNamed "strings.asciiSpace").getD 0) (by kernel_rfl) h hb
def asciiB (s : ByteArray) : Bool := s.data.toList.all (fun b => decide (b.toNat < 128))
def fieldsB (s : ByteArray) : List ByteArray := (Lib.fields s.data.toList).map fun l => ⟨l.toArray⟩
def strings_Fields.f (a0 : ByteArray) : Option (List ByteArray) := if asciiB a0 = true ∧ a0.size < 4294967281 then some (fieldsB a0) else none
theorem cntF_le : ∀ (l : List UInt8) (b : Bool), Lib.cntF b l ≤ l.length
  | [], b => by simp [Lib.cntF]
  | x :: l, b => by
    have := cntF_le l (Lib.isSp x)
    unfold Lib.cntF
    rw [List.length_cons]
    split <;> omega
theorem fieldsB_len (s : ByteArray) : (fieldsB s).length ≤ s.size + 1 := by
  unfold fieldsB Lib.fields
  rw [List.length_map, Lib.fieldsGo_length]
  have := cntF_le s.data.toList (List.isEmpty ([] : List UInt8))
  have h2 : s.data.toList.length = s.size := by simp
  rw [h2] at this
  simp only [List.isEmpty_nil, if_true] at this ⊢
  omega
theorem strings_Fields.calls (a0 : ByteArray) (r : List ByteArray) (w : World) (hT : Aside0 (Tab w)) (h : strings_Fields.f a0 = some r) :
    Calls Tryz.prog 35 #[.string a0] w fun e w' => ∃ v0_ : Value, e = .returned (v0_) ∧ Kd.R Kd.string 9 w' w.heap.size (fun _ => True) v0_ r ∧ Below w.heap.size w w' := by
  unfold strings_Fields.f at h
  split at h
  · rename_i hc
    obtain ⟨ha, hs⟩ := hc
    cases Option.some.inj h
    refine (Tryz.strings_Fields_laid a0 w hs (fun j b hj => by
      have := List.all_eq_true.1 ha b (List.mem_of_getElem? hj)
      simpa using this) hT.out).mono ?_
    rintro e w' ⟨rfl, rfl⟩
    have hb := fieldsB_len a0
    have hl : (fieldsB a0).length = (Lib.fields a0.data.toList).length := by simp [fieldsB]
    have hm : ((Lib.fields a0.data.toList).map fun l => Value.string ⟨l.toArray⟩) = (fieldsB a0).map Value.string := by simp [fieldsB, Function.comp_def]
    rw [← hl, hm]
    exact ⟨_, rfl, row_new w _ (by omega), (Below.refl _ w).alloc (Nat.le_refl _) _⟩
  · cases h
def tabs : ByteArray := ⟨#[32, 9]⟩
def tabB (b : UInt8) : Bool := b == 32 || b == 9
def hasTab (s : ByteArray) : Bool := s.data.toList.any tabB
def strings_ContainsAny.f (a0 a1 : ByteArray) : Option Bool := if a1 = ⟨#[32, 9]⟩ ∧ a0.size < 4294967281 then some (hasTab a0) else none
theorem decode_skip (s : ByteArray) (k : Nat) (h : k < s.size) (ha : 128 ≤ (s[k]'h).toNat) (j : Nat) (hj : j < (Utf8.decode s k).2) : ∃ hk : k + j < s.size, 128 ≤ (s[k + j]'hk).toNat := by
  have hn : ¬ (s.get! (k + 0)).toNat < 128 := by rw [get_at s k h]; omega
  have c : ∀ m, (decide (k + m < s.size) && (s.get! (k + m)).toNat / 64 == 2) = true → ∃ hk : k + m < s.size, 128 ≤ (s[k + m]'hk).toNat := by
    intro m hm
    simp only [Bool.and_eq_true, decide_eq_true_eq, beq_iff_eq] at hm
    refine ⟨hm.1, ?_⟩
    have := get_at s (k + m) hm.1
    rw [Nat.add_zero] at this
    rw [← this]
    omega
  have c0 : ∃ hk : k + 0 < s.size, 128 ≤ (s[k + 0]'hk).toNat := ⟨h, ha⟩
  have one : j < 1 → ∃ hk : k + j < s.size, 128 ≤ (s[k + j]'hk).toNat := by
    intro h1
    obtain rfl : j = 0 := by omega
    exact c0
  simp only [Utf8.decode, hn, if_false] at hj
  split at hj
  · rename_i h2
    rw [Bool.and_eq_true] at h2
    split at hj
    · rcases j with _ | _ | j
      · exact c0
      · exact c 1 h2.2
      · simp only at hj; omega
    · exact one hj
  · split at hj
    · rename_i h2
      rw [Bool.and_eq_true, Bool.and_eq_true] at h2
      split at hj
      · rcases j with _ | _ | _ | j
        · exact c0
        · exact c 1 h2.1.2
        · exact c 2 h2.2
        · simp only at hj; omega
      · exact one hj
    · split at hj
      · rename_i h2
        rw [Bool.and_eq_true, Bool.and_eq_true, Bool.and_eq_true] at h2
        split at hj
        · rcases j with _ | _ | _ | _ | j
          · exact c0
          · exact c 1 h2.1.1.2
          · exact c 2 h2.1.2
          · exact c 3 h2.2
          · simp only at hj; omega
        · exact one hj
      · exact one hj
theorem decode_valid (s : ByteArray) (k : Nat) (h : k < s.size) (ha : 128 ≤ (s[k]'h).toNat) : Utf8.valid ((Utf8.decode s k).1 : Int) = true := by
  have hn : ¬ (s.get! (k + 0)).toNat < 128 := by rw [get_at s k h]; omega
  have hE : Utf8.valid ((Utf8.runeError : Nat) : Int) = true := by decide
  simp only [Utf8.decode, hn, if_false]
  split
  · split
    · show Utf8.valid _ = true
      simp only [Utf8.valid, Bool.or_eq_true, Bool.and_eq_true, decide_eq_true_eq]
      omega
    · exact hE
  · split
    · split
      · rename_i h2
        rw [Bool.and_eq_true] at h2
        exact h2.2
      · exact hE
    · split
      · split
        · rename_i h2
          rw [Bool.and_eq_true] at h2
          exact h2.2
        · exact hE
      · exact hE
set_option maxRecDepth 100000 in
theorem idx_err (w : World) :
    Calls Tryz.prog 91 #[.string tabs, .int .i32 65533] w fun e w' => e = .returned (.int .i64 (-1)) ∧ Below w.heap.size w w' := by
  have hbi : ∀ p, Below w.heap.size w (w.iter tabs p) := fun p => (Below.refl _ w).alloc (Nat.le_refl _) _
  have HBI := Lib.hid hbi
  clear hbi
  unfold tabs at *
  go_enter Tryz.func91, Tryz.ntmps91
  go_wp2_with fail
  go_loopw [] (fun wr => ∃ k, k ≤ 2 ∧ wr = w.iter ⟨#[32, 9]⟩ k) (fun wr => 2 - wr.iterPos w.heap.size)
  case atStart => exact ⟨0, by omega, rfl⟩
  case round =>
    obtain ⟨k, hk, rfl⟩ := hrel
    obtain rfl | rfl | rfl : k = 0 ∨ k = 1 ∨ k = 2 := by omega
    · have hnx : ∀ ty, (Instr.next (.pointer (some ⟨w.heap.size, 0, none⟩)) true ty).run Tryz.prog (w.iter ⟨#[32, 9]⟩ 0) = .ok (.tuple #[.bool true, .int .i64 0, .int .i32 32]) (w.iter ⟨#[32, 9]⟩ 1) := fun ty => run_next_any w ⟨#[32, 9]⟩ 0 ty (by decide)
      go_wp2_with fail
      go_roundw
      case rel => exact ⟨1, by omega, rfl⟩
      case measure => simp
    · have hnx : ∀ ty, (Instr.next (.pointer (some ⟨w.heap.size, 0, none⟩)) true ty).run Tryz.prog (w.iter ⟨#[32, 9]⟩ 1) = .ok (.tuple #[.bool true, .int .i64 1, .int .i32 9]) (w.iter ⟨#[32, 9]⟩ 2) := fun ty => run_next_any w ⟨#[32, 9]⟩ 1 ty (by decide)
      go_wp2_with fail
      go_roundw
      case rel => exact ⟨2, by omega, rfl⟩
      case measure => simp
    · have hnx := run_next_end (P := Tryz.prog) w ⟨#[32, 9]⟩ 2
      go_wp2_with fail
      go_ret
      exact ⟨rfl, HBI.out _⟩
set_option maxRecDepth 100000 in
theorem idx_two (c : Int) (hc : 128 ≤ c) (hE : (c == 65533) = false) (hvr : Lib.validRune c = true) (rs : ByteArray) (hcv : ∀ w, (convert 21 9 (.int .i32 c)).run Tryz.prog w = .ok (.string rs) w)
    (hm : rs.size = 2) (b : UInt8) (hb1 : rs[1]'(by omega) = b) (hne : ((9 : Int) != (b.toNat : Int)) = true) (w : World) :
    Calls Tryz.prog 91 #[.string tabs, .int .i32 c] w fun e w' => e = .returned (.int .i64 (-1)) ∧ Below w.heap.size w w' := by
  have q1 : ¬ c < 128 := by omega
  have hi9 : ((⟨#[32, 9]⟩ : ByteArray)[1]'(by decide)).toNat = 9 := rfl
  unfold tabs at *
  go_enter Tryz.func91, Tryz.ntmps91
  go_wp2_with (first | (go_at_call 107; refine (Tryz.utf8_ValidRune _ _).mono ?_; rintro e w' ⟨rfl, hw⟩; rw [hw, hvr]))
  refine wp_scope_straight ?_
  go_wp2_with fail
  go_loopw [9] (fun v9 wr => v9 = .int .i64 1 ∧ wr = w) (fun _ _ => 0)
  case atStart => exact ⟨rfl, rfl⟩
  case round =>
    obtain ⟨rfl, rfl⟩ := hrel
    go_wp2
    refine wp_scope_straight ?_
    go_wp2
    go_region
    all_goals go_wp2
    all_goals go_region_with (go_at_call 106; refine (Tryz.strings_IndexByte _ _ _).mono ?_; rintro e w' ⟨rfl, hw⟩; rw [hw])
    all_goals (try rw [show Lib.indexByte [] b = -1 from rfl])
    all_goals go_wp2
    all_goals (simp +zetaDelta only [go_sem])
    all_goals go_ret
    all_goals exact ⟨rfl, by repeat (first | exact Below.refl _ _ | apply below_drew1)⟩
set_option maxRecDepth 100000 in
theorem idx_more (c : Int) (hc : 128 ≤ c) (hE : (c == 65533) = false) (hvr : Lib.validRune c = true) (rs : ByteArray) (hcv : ∀ w, (convert 21 9 (.int .i32 c)).run Tryz.prog w = .ok (.string rs) w)
    (m : Int) (hm2 : 2 ≤ m) (hw1 : wrap64 ((rs.size : Int) - 1) = m) (w : World) :
    Calls Tryz.prog 91 #[.string tabs, .int .i32 c] w fun e w' => e = .returned (.int .i64 (-1)) ∧ Below w.heap.size w w' := by
  have q1 : ¬ c < 128 := by omega
  have h3 : ¬ m < 2 := by omega
  unfold tabs at *
  go_enter Tryz.func91, Tryz.ntmps91
  go_wp2_with (first | (go_at_call 107; refine (Tryz.utf8_ValidRune _ _).mono ?_; rintro e w' ⟨rfl, hw⟩; rw [hw, hvr]))
  refine wp_scope_straight ?_
  go_wp2_with fail
  go_loopw [9] (fun v9 wr => v9 = .int .i64 m ∧ wr = w) (fun _ _ => 0)
  case atStart => exact ⟨by first | rfl | (rw [hw1]), rfl⟩
  case round =>
    obtain ⟨rfl, rfl⟩ := hrel
    go_wp2
    simp only [go_sem]
    change bodyPost _ _ _ Exit.ret _ _
    go_ret
    exact ⟨rfl, Below.refl _ _⟩
theorem idx_high (c : Nat) (hc : 128 ≤ c) (hv : Utf8.valid (c : Int) = true) (w : World) :
    Calls Tryz.prog 91 #[.string tabs, .int .i32 (c : Int)] w fun e w' => e = .returned (.int .i64 (-1)) ∧ Below w.heap.size w w' := by
  by_cases hE : c = 65533
  · subst hE
    exact idx_err w
  · have hE : ((c : Int) == 65533) = false := by rw [beq_eq_false_iff_ne]; omega
    have hvr : Lib.validRune (c : Int) = true := by
      unfold Utf8.valid at hv
      unfold Lib.validRune
      simp only [Bool.or_eq_true, Bool.and_eq_true, decide_eq_true_eq] at hv ⊢
      omega
    obtain ⟨rs, hrs⟩ : ∃ rs, Utf8.encode (c : Int) = rs := ⟨_, rfl⟩
    have hcv : ∀ w, (convert 21 9 (.int .i32 (c : Int))).run Tryz.prog w = .ok (.string rs) w := fun w => by rw [run_convert_int_string w 21 9 .i32 c (by kernel_rfl) Tryz.underlying9, hrs]
    have hf := encode_facts (c : Int) hv (by omega)
    rw [hrs] at hf
    obtain ⟨f1, f2, f3⟩ := hf
    by_cases h2 : rs.size = 2
    · have hb := f3 (by omega)
      have e1 : rs[rs.size - 1]'(by omega) = rs[1]'(by omega) := by simp only [h2]
      rw [e1] at hb
      exact idx_two c (by omega) hE hvr rs hcv h2 _ rfl (by rw [bne_iff_ne]; omega) w
    · exact idx_more c (by omega) hE hvr rs hcv ((rs.size : Int) - 1) (by omega) (by unfold wrap64; omega) w
theorem next_it {P : Program} (W : World) (g : Nat) (s : ByteArray) (k : Nat) (ty : TypeId) (h : W.heap[g]? = some (.stringIter s k)) (hk : k < s.size) :
    (Instr.next (.pointer (some ⟨g, 0, none⟩)) true ty).run P W = .ok (.tuple #[.bool true, .int .i64 k, .int .i32 (Utf8.decode s k).1]) { W with heap := W.heap.setIfInBounds g (.stringIter s (k + (Utf8.decode s k).2)) } := by
  simp only [Instr.next, getObj, setObj, Sem.run_bind, Sem.run, h, Result.andThen, hk, if_true]
  simp [goInt]
theorem next_over {P : Program} (W : World) (g : Nat) (s : ByteArray) (k : Nat) (ty : TypeId) (h : W.heap[g]? = some (.stringIter s k)) (hk : ¬ k < s.size) :
    (Instr.next (.pointer (some ⟨g, 0, none⟩)) true ty).run P W = .ok (.tuple #[.bool false]) W := by
  simp [Instr.next, getObj, Sem.run, h, hk]
def NoT (s : ByteArray) (k : Nat) : Prop := ∀ (j : Nat) (hj : j < s.size), j < k → tabB (s[j]'hj) = false
theorem noT_has {s : ByteArray} (h : NoT s s.size) : hasTab s = false := by
  unfold hasTab
  rw [List.any_eq_false]
  intro b hb
  obtain ⟨j, hj⟩ := List.mem_iff_getElem?.1 hb
  obtain ⟨hl, he⟩ := List.getElem?_eq_some_iff.1 hj
  have hs : j < s.size := by simpa using hl
  have := h j hs hs
  rw [show s[j]'hs = b from he] at this
  simp [this]
theorem hit_has {s : ByteArray} {k : Nat} (hk : k < s.size) (h : tabB (s[k]'hk) = true) : hasTab s = true := by
  unfold hasTab
  rw [List.any_eq_true]
  exact ⟨s[k]'hk, by rw [show s[k]'hk = s.data.toList[k]'(by simpa using hk) from rfl]; exact List.getElem_mem _, h⟩
theorem noT_skip {s : ByteArray} {k : Nat} (h : NoT s k) (hk : k < s.size) (ha : 128 ≤ (s[k]'hk).toNat) : NoT s (k + (Utf8.decode s k).2) := by
  intro j hj hlt
  by_cases hjk : j < k
  · exact h j hj hjk
  · obtain ⟨d, rfl⟩ : ∃ d, j = k + d := ⟨j - k, by omega⟩
    obtain ⟨_, hb⟩ := decode_skip s k hk ha d (by omega)
    unfold tabB
    rw [Bool.or_eq_false_iff, beq_eq_false_iff_ne, beq_eq_false_iff_ne]
    constructor
    · intro he; rw [he] at hb; exact absurd hb (by decide)
    · intro he; rw [he] at hb; exact absurd hb (by decide)
theorem noT_succ {s : ByteArray} {k : Nat} (h : NoT s k) (hk : k < s.size) (hb : tabB (s[k]'hk) = false) : NoT s (k + 1) := by
  intro j hj hlt
  by_cases hjk : j < k
  · exact h j hj hjk
  · obtain rfl : j = k := by omega
    exact hb
def ItR (s : ByteArray) (w : World) (k : Nat) (W : World) : Prop := Below w.heap.size w W ∧ W.heap[w.heap.size]? = some (.stringIter s k)
theorem itR_pos {s : ByteArray} {w W : World} {k : Nat} (h : ItR s w k W) : W.iterPos w.heap.size = k := by simp [World.iterPos, h.2]
theorem itR_set {s : ByteArray} {w W : World} {k : Nat} (h : ItR s w k W) (k' : Nat) : ItR s w k' { W with heap := W.heap.setIfInBounds w.heap.size (.stringIter s k') } := by
  have hg : w.heap.size < W.heap.size := by
    rcases Nat.lt_or_ge w.heap.size W.heap.size with h1 | h1
    · exact h1
    · have h2 := h.2
      rw [Array.getElem?_eq_none h1] at h2; exact absurd h2 (by simp)
  refine ⟨⟨h.1.os, h.1.tape, h.1.output, by simpa using h.1.size, fun j hj => ?_⟩, by simp [hg]⟩
  have := h.1.block j hj
  rw [← this]
  show (W.heap.setIfInBounds w.heap.size _)[j]? = _
  rw [Array.getElem?_setIfInBounds, if_neg (by omega)]
theorem itR_below {s : ByteArray} {w W W' : World} {k : Nat} (h : ItR s w k W) (hb : Below W.heap.size W W') : ItR s w k W' := by
  have hg : w.heap.size < W.heap.size := by
    rcases Nat.lt_or_ge w.heap.size W.heap.size with h1 | h1
    · exact h1
    · have h2 := h.2
      rw [Array.getElem?_eq_none h1] at h2; exact absurd h2 (by simp)
  exact ⟨below_step h.1 hb, by rw [hb.block _ hg]; exact h.2⟩
theorem idx_tab (b : UInt8) : decide ((0 : Int) ≤ Lib.indexByte [32, 9] b) = tabB b := by
  rw [← Lib.contains_iff_indexByte]
  simp only [List.contains_cons, List.contains_nil, Bool.or_false, tabB]
set_option maxRecDepth 100000 in
theorem any_short (s : ByteArray) (h8 : s.size ≤ 8) (w : World) :
    Calls Tryz.prog 74 #[.string s, .string tabs] w fun e w' => (∃ x : Int, e = .returned (.int .i64 x) ∧ decide (0 ≤ x) = hasTab s) ∧ Below w.heap.size w w' := by
  have h8z : decide ((8 : Int) < (s.size : Int)) = false := decide_eq_false (by omega)
  unfold tabs at *
  go_enter Tryz.func74, Tryz.ntmps74
  go_wp2_with (go_at_call 92; refine (Tryz.strings_shouldUseASCIISet _ _).mono ?_; rintro e w' ⟨rfl, hw⟩; rw [hw, h8z])
  go_loopw [] (fun wr => ∃ k, k ≤ s.size ∧ NoT s k ∧ ItR s w k wr) (fun wr => s.size - wr.iterPos w.heap.size)
  case atStart => exact ⟨0, Nat.zero_le _, fun j _ h => absurd h (Nat.not_lt_zero _), (Below.refl _ w).alloc (Nat.le_refl _) _, World.iter_heap w s 0⟩
  case round =>
    obtain ⟨k, hk, hno, hit⟩ := hrel
    have HNO := Lib.hid hno
    have HIT := Lib.hid hit
    clear hno hit
    by_cases hkl : k < s.size
    · have hnx0 := fun ty => next_it (P := Tryz.prog) wr w.heap.size s k ty HIT.out.2 hkl
      have hst := itR_set HIT.out (k + (Utf8.decode s k).2)
      obtain ⟨W2, hW2⟩ : ∃ W2, { wr with heap := wr.heap.setIfInBounds w.heap.size (.stringIter s (k + (Utf8.decode s k).2)) } = W2 := ⟨_, rfl⟩
      have hnx : ∀ ty, (Instr.next (.pointer (some ⟨w.heap.size, 0, none⟩)) true ty).run Tryz.prog wr = .ok (.tuple #[.bool true, .int .i64 k, .int .i32 (Utf8.decode s k).1]) W2 := by rw [← hW2]; exact hnx0
      rw [hW2] at hst
      clear hW2 hnx0
      by_cases hlt : (s[k]'hkl).toNat < 128
      · rw [decode_ascii s k hkl hlt] at hnx hst
        obtain ⟨b, hb⟩ : ∃ b, s[k]'hkl = b := ⟨_, rfl⟩
        rw [hb] at hnx hlt
        have hback : ((b.toNat : Int)).toNat.toUInt8 = b := by simp
        have hix := idx_tab b
        have HST := Lib.hid hst
        clear hst
        cases hin : tabB b
        · rw [hin] at hix
          have hix := of_decide_eq_false hix
          have HNX := Lib.hid (noT_succ HNO.out hkl (by rw [hb]; exact hin))
          clear hb hin
          go_wp2_with (go_at_call 91; refine (Tryz.strings_IndexRune_ascii _ _ _ (by omega) (by omega)).mono ?_; rintro e w' ⟨rfl, hw⟩; rw [hw, hback])
          go_roundw
          case rel => exact ⟨k + 1, hkl, HNX.out, HST.out⟩
          case measure => rw [itR_pos HST.out, itR_pos HIT.out]; omega
        · rw [hin] at hix
          have hix := of_decide_eq_true hix
          have HH := Lib.hid (hit_has hkl (by rw [hb]; exact hin))
          clear hb hin
          go_wp2_with (go_at_call 91; refine (Tryz.strings_IndexRune_ascii _ _ _ (by omega) (by omega)).mono ?_; rintro e w' ⟨rfl, hw⟩; rw [hw, hback])
          go_ret
          exact ⟨⟨_, rfl, by rw [HH.out]; exact decide_eq_true (Int.natCast_nonneg _)⟩, HST.out.1⟩
      · have hv := decode_valid s k hkl (by omega)
        have hh := (decode_high s k hkl (by omega))
        have HNX := Lib.hid (noT_skip HNO.out hkl (by omega))
        have hd1 := hh.2
        obtain ⟨r, hr⟩ : ∃ r, (Utf8.decode s k).1 = r := ⟨_, rfl⟩
        obtain ⟨d, hd⟩ : ∃ d, (Utf8.decode s k).2 = d := ⟨_, rfl⟩
        have hle : k + d ≤ s.size := by
          rw [← hd]
          obtain ⟨h1, _⟩ := decode_skip s k hkl (by omega) ((Utf8.decode s k).2 - 1) (by omega)
          omega
        rw [hd] at HNX hst hd1
        rw [hr] at hnx hv hh
        have HST := Lib.hid hst
        have C := fun W => idx_high r hh.1 hv W
        unfold tabs at C
        have HC := Lib.hid C
        clear hst hv C hr hd hh hlt
        go_wp2_with (go_at_call 91; refine (HC.out _).mono ?_; rintro e w' ⟨rfl, hw⟩; have HST2 := Lib.hid (itR_below HST.out hw))
        go_roundw
        case rel => exact ⟨k + d, hle, HNX.out, HST2.out⟩
        case measure => rw [itR_pos HST2.out, itR_pos HIT.out]; omega
    · have hnx : ∀ ty, _ := fun ty => next_over (P := Tryz.prog) wr w.heap.size s k ty HIT.out.2 hkl
      obtain rfl : k = s.size := by omega
      have HH := Lib.hid (noT_has HNO.out)
      go_wp2_with fail
      go_ret
      exact ⟨⟨_, rfl, by rw [HH.out]; rfl⟩, HIT.out.1⟩
theorem indexAny_has : ∀ l : List UInt8, decide ((0 : Int) ≤ Lib.indexAny l [32, 9]) = l.any tabB
  | [] => rfl
  | b :: l => by
    have ih := indexAny_has l
    have hg := Lib.indexAny_ge [32, 9] l
    have hc : ([32, 9] : List UInt8).contains b = tabB b := by simp only [List.contains_cons, List.contains_nil, Bool.or_false, tabB]
    unfold Lib.indexAny
    rw [List.any_cons, hc, ← ih]
    cases tabB b with
    | true => rfl
    | false =>
      rw [Bool.false_or, if_neg Bool.false_ne_true]
      by_cases h : Lib.indexAny l [32, 9] = -1
      · rw [if_pos (by rw [h]; rfl), h]
      · rw [if_neg (by rw [beq_iff_eq]; exact h)]
        congr 1
        rw [eq_iff_iff]
        omega
theorem any_is (s : ByteArray) (hs : s.size < 4294967281) (w : World) :
    Calls Tryz.prog 74 #[.string s, .string tabs] w fun e w' => (∃ x : Int, e = .returned (.int .i64 x) ∧ decide (0 ≤ x) = hasTab s) ∧ Below w.heap.size w w' := by
  by_cases h8 : s.size ≤ 8
  · exact any_short s h8 w
  · refine (Tryz.strings_IndexAny_long (zero_of_info (n := 256) (by kernel_rfl)).1 s tabs w (by decide) (by omega) hs (by decide) (fun j b hj => ?_)).mono ?_
    · have : b ∈ ([32, 9] : List UInt8) := List.mem_of_getElem? hj
      simp only [List.mem_cons, List.not_mem_nil, or_false] at this
      rcases this with rfl | rfl <;> decide
    · rintro e w' ⟨rfl, rfl⟩
      exact ⟨⟨_, rfl, indexAny_has s.data.toList⟩, by repeat (first | exact Below.refl _ _ | apply below_alloc)⟩
theorem strings_ContainsAny.calls (a0 a1 : ByteArray) (r : Bool) (w : World) (h : strings_ContainsAny.f a0 a1 = some r) :
    Calls Tryz.prog 50 #[.string a0, .string a1] w fun e w' => e = .returned (.bool r) ∧ Below w.heap.size w w' := by
  unfold strings_ContainsAny.f at h
  split at h
  · rename_i hc
    obtain ⟨rfl, hs⟩ := hc
    have hr := Option.some.inj h
    have HC := Lib.hid (fun W => any_is a0 hs W)
    have HR := Lib.hid hr
    clear h hr
    go_enter Tryz.func50, Tryz.ntmps50
    go_wp2_with (go_at_call 74; refine (HC.out _).mono ?_; rintro e w' ⟨⟨x, rfl, hx⟩, hb⟩; have HX := Lib.hid hx; have HB := Lib.hid hb; clear hx hb)
    go_ret
    exact ⟨by rw [← HR.out, ← HX.out]; rfl, HB.out⟩
  · cases h
end Go.Proofs.YtlglbpjccpdloaaGreatDoor.Ext
namespace Go.Proofs.YtlglbpjccpdloaaGreatDoor.ScopeL
open Go
def jumps (J : Nat → Act → World → Prop) (Q : Exit → Act → World → Prop) : Exit → Act → World → Prop
  | .goto l, a, w => J l a w
  | e, a, w => Q e a w
section
variable {P : Program} {a : Act} {w : World} {Q : Exit → Act → World → Prop} {J : Nat → Act → World → Prop}
theorem wp_scope_labels {c : Code} (J : Nat → Act → World → Prop) (μ : Nat → Act → World → Nat)
    (first : c.wp P (jumps J Q) a w)
    (pass : ∀ l a w, J l a w → ∃ rest, findLabel c l = some rest ∧ rest.wp P (jumps (fun l' a' w' => J l' a' w' ∧ μ l' a' w' < μ l a w) Q) a w) : (Code.scope c).wp P Q a w := by
  intro b k cs
  have hg : ∀ l rest, findLabel c l = some rest → gotoIn l (.inScope c :: k) = some (.code rest :: .inScope c :: k) := by
    intro l rest hf
    simp [gotoIn, hf]
  have key : ∀ n l rest a w, μ l a w = n → J l a w → findLabel c l = some rest → ∃ e a' w', Q e a' w' ∧ Arrives P (lone (b.at a (.code rest :: .inScope c :: k)) cs w) b k cs e a' w' := by
    intro n
    induction n using Nat.strongRecOn with
    | _ n ih =>
      intro l rest a w hn hJ hf
      obtain ⟨rest', hf', hp⟩ := pass l a w hJ
      rw [hf] at hf'
      cases hf'
      obtain ⟨e, a₁, w₁, hq, harr⟩ := hp b (.inScope c :: k) cs
      cases e with
      | normal => exact ⟨.normal, a₁, w₁, hq, Steps.trans harr (.one step_inScope)⟩
      | exit id => exact ⟨.exit id, a₁, w₁, hq, fun k' hk => harr k' (by simp [exitTo, hk])⟩
      | goto l' =>
        obtain ⟨hJ', hlt⟩ := hq
        obtain ⟨rest₂, hf₂, _⟩ := pass l' a₁ w₁ hJ'
        obtain ⟨e₂, a₂, w₂, hq₂, harr₂⟩ := ih _ (by omega) l' rest₂ a₁ w₁ rfl hJ' hf₂
        exact ⟨e₂, a₂, w₂, hq₂, .of_steps (harr _ (hg _ _ hf₂)) harr₂⟩
      | ret => exact ⟨_, a₁, w₁, hq, harr⟩
      | panic ch => exact ⟨_, a₁, w₁, hq, harr⟩
      | outgrown => exact ⟨_, a₁, w₁, hq, harr⟩
  obtain ⟨e, a₁, w₁, hq, harr⟩ := first b (.inScope c :: k) cs
  cases e with
  | normal => exact ⟨.normal, a₁, w₁, hq, .head step_scope (Steps.trans harr (.one step_inScope))⟩
  | exit id => exact ⟨.exit id, a₁, w₁, hq, fun k' hk => .head step_scope (harr k' (by simp [exitTo, hk]))⟩
  | goto l' =>
    have hJ' : J l' a₁ w₁ := hq
    obtain ⟨rest₂, hf₂, _⟩ := pass l' a₁ w₁ hJ'
    obtain ⟨e₂, a₂, w₂, hq₂, harr₂⟩ := key _ l' rest₂ a₁ w₁ rfl hJ' hf₂
    exact ⟨e₂, a₂, w₂, hq₂, .of_steps (.head step_scope (harr _ (hg _ _ hf₂))) harr₂⟩
  | ret => exact ⟨_, a₁, w₁, hq, .of_steps (.one step_scope) harr⟩
  | panic ch => exact ⟨_, a₁, w₁, hq, .of_steps (.one step_scope) harr⟩
  | outgrown => exact ⟨_, a₁, w₁, hq, .of_steps (.one step_scope) harr⟩
end
end Go.Proofs.YtlglbpjccpdloaaGreatDoor.ScopeL

