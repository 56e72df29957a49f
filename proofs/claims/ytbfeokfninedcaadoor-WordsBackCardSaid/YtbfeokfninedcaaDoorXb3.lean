/- Gathered by a program of this session (shake.py): what the claim's theorem needs. -/
import Derived.Test.YtbfeokfninedcaaDoorXb1
import Derived.Test.YtbfeokfninedcaaDoorXb2
import Derived.SevenTiedAt
import Derived.Test.YtbfeokfninedcaaDoorCards
import Derived.Test.YtbfeokfninedcaaDoorTie
import Derived.LaidMore
import Derived.Stop.Joined
import Derived.Lay
import Derived.WalkKit
import Derived.ProofKit
import Derived.OpenShut
import Derived.ShutString
import Derived.ChangeOld
import Derived.Below
import Derived.SizedLaws
import Derived.Test.YtbfeokfninedcaaDoorRows
import Derived.SliceStrings
import Derived.Shelf.Strings.SplitCore
import Derived.Shelf.Strings.Split
import Derived.Laws.CopyOwn
import Derived.Deep.RegionLaw
import Derived.Laws.RangeAny
import Derived.Deep.Draws
import Derived.Deep.AppendLies
import Derived.Maps.AppendAt
import Derived.OwnWalk
import Derived.Laws.BytesArg
import Derived.Laws.MakeOwn
import Derived.Laws.OwnMore
import Derived.Deep.OwnRows
import Derived.Tactics
import Derived.Lib.ConvBytes
import Derived.Laws.Slices
import Derived.KernelRfl
import Derived.RowKit3
import Derived.Deep.LoopGhost
import Derived.Deep.QuietTactic
import Derived.BigQuiet
import Derived.WideLaws
import Derived.Deep.DeepCutAuto
import Derived.Deep.CutBlock
import Derived.Deep.RegionHeld3
import Derived.Laws.Rows
import Derived.Lib.AppendStr
import Derived.ArgAppend
import Derived.Laws.IdiomCopy
import Derived.OrdersHeld
import Derived.Laws.BitsLemmas
import Derived.RowKit
import Derived.Test.YtbfeokfninedcaaDoorProg
import Derived.Laws.StructEq
set_option linter.unusedVariables false
set_option linter.unusedSimpArgs false
namespace Go.Proofs.YtbfeokfninedcaaDoor.Ext
end Go.Proofs.YtbfeokfninedcaaDoor.Ext
namespace Go.Proofs.YtbfeokfninedcaaDoor.PWrdA
end Go.Proofs.YtbfeokfninedcaaDoor.PWrdA
namespace Go.Proofs.YtbfeokfninedcaaDoor.PWrdB
end Go.Proofs.YtbfeokfninedcaaDoor.PWrdB
namespace Go.Proofs.YtbfeokfninedcaaDoorW.PrintLast
end Go.Proofs.YtbfeokfninedcaaDoorW.PrintLast
namespace Go.Proofs.YtbfeokfninedcaaDoorW.PrintMore
end Go.Proofs.YtbfeokfninedcaaDoorW.PrintMore
namespace Go.Proofs.YtbfeokfninedcaaDoorW.PrintWords
end Go.Proofs.YtbfeokfninedcaaDoorW.PrintWords
set_option linter.unusedVariables false
set_option linter.unusedSimpArgs false
namespace Go.Proofs.YtbfeokfninedcaaDoor.Ext
open Go.RowKit Go.Proofs.YtbfeokfninedcaaDoorW.PrintWords Go.Proofs.YtbfeokfninedcaaDoorW.PrintLast
structure RT (W : World) (B : Nat) : Prop where
  ex : ∃ f34 f92 tr b, W.heap[B]? = some (.cells (cB f34 f92 tr) 87 (0, 0)) ∧ Byt W f34 92 34 ∧ Byt W f92 92 92 ∧ W.ownsRow b 9 1 tr 2 [Value.string ⟨#[34]⟩, Value.string ⟨#[92]⟩]
theorem rt_of {w W : World} (h : BSt w W 0) : RT W (w.heap.size + 1) := by
  obtain ⟨f34, f92, tr, xs, hc, ho, hb, _, _, q1, q0⟩ := h.ex
  obtain ⟨hf, ys, rfl, _, hy⟩ := q1 (by omega)
  obtain rfl := hy rfl
  exact ⟨f34, f92, tr, _, hc, hf, q0 rfl, ho⟩
theorem rt_below {W W' : World} {B : Nat} (h : RT W B) (hb : Below W.heap.size W W') : RT W' B := by
  obtain ⟨f34, f92, tr, b, hc, h1, h2, ho⟩ := h.ex
  exact ⟨f34, f92, tr, b, (hb.block _ (blk_lt hc)).trans hc, byt_below h1 hb, byt_below h2 hb, pw_own_below ho hb⟩
theorem rt_set {W : World} {B : Nat} (h : RT W B) {g : Nat} {cs : Array Value} (hg : W.heap[g]? = some (.cells cs 57 (0, 0))) (j : Nat) (u : Value) : RT (W.setCell ⟨g, j, none⟩ u) B := by
  obtain ⟨f34, f92, tr, b, hc, h1, h2, ho⟩ := h.ex
  exact ⟨f34, f92, tr, b, blk_far hc (blk_ne hc hg (by decide)) _, byt_set h1 hg (by decide) j u, byt_set h2 hg (by decide) j u, own_setCell ho (own_ne ho hg (by decide)) _⟩
theorem rt_cells {W : World} {B : Nat} (h : RT W B) : ∃ x34 c34 x92 c92 t ct, W.cell? ⟨B, 34, none⟩ = some (.slice (some ⟨x34, 0, none⟩) 2 c34) ∧ W.cell? ⟨B, 92, none⟩ = some (.slice (some ⟨x92, 0, none⟩) 2 c92) ∧
    W.cell? ⟨B, 256, none⟩ = some (.slice (some ⟨t, 0, none⟩) 2 ct) ∧ W.cell? ⟨t, 0, none⟩ = some (.string ⟨#[34]⟩) ∧ W.cell? ⟨t, 1, none⟩ = some (.string ⟨#[92]⟩) ∧
    W.cell? ⟨x34, 0, none⟩ = some (.int .u8 92) ∧ W.cell? ⟨x34, 1, none⟩ = some (.int .u8 34) ∧ W.cell? ⟨x92, 0, none⟩ = some (.int .u8 92) ∧ W.cell? ⟨x92, 1, none⟩ = some (.int .u8 92) ∧
    (∀ b, b < 256 → b ≠ 34 → b ≠ 92 → W.cell? ⟨B, b, none⟩ = some (.slice none 0 0)) := by
  obtain ⟨f34, f92, tr, b, hc, ⟨x34, c34, d34, fr34, rfl, p1, p2, p3⟩, ⟨x92, c92, d92, fr92, rfl, q1, q2, q3⟩, ho⟩ := h.ex
  rcases ho.2 with ⟨_, h0⟩ | ⟨t, ct, cur, rfl, _, ht, _⟩
  · cases h0
  have o0 := ho.cells (g := t) rfl 0 (.string ⟨#[34]⟩) rfl
  have o1 := ho.cells (g := t) rfl 1 (.string ⟨#[92]⟩) rfl
  rw [add_plain] at o0 o1
  exact ⟨x34, c34, x92, c92, t, ct, (blk_cell hc 34).trans (cB_34 _ _ _), (blk_cell hc 92).trans (cB_92 _ _ _), (blk_cell hc 256).trans (cB_256 _ _ _), o0, o1,
    (cell_of_row _ _ _ _ _ _ p1).trans p2, (cell_of_row _ _ _ _ _ _ p1).trans p3, (cell_of_row _ _ _ _ _ _ q1).trans q2, (cell_of_row _ _ _ _ _ _ q1).trans q3, fun b hb h1 h2 => (blk_cell hc b).trans (cB_at _ _ _ b hb h1 h2)⟩
theorem take_snoc_b (s : ByteArray) (k : Nat) (h : k < s.size) : s.data.toList.take (k + 1) = s.data.toList.take k ++ [s[k]] := by
  rw [List.take_succ_eq_append_getElem (by simpa using h)]; rfl
def vals (l : List UInt8) : List Value := l.map (fun c => .int .u8 (c.toNat : Int))
theorem es_take_le (l : List UInt8) (k : Nat) : (WP.es (l.take k)).length ≤ (WP.es l).length := by
  conv => rhs; rw [← List.take_append_drop k l, WP.es_append]
  rw [List.length_append]
  omega
theorem es_step (s : ByteArray) (k : Nat) (h : k < s.size) (c : UInt8) (hc : s[k]'h = c) : WP.es (s.data.toList.take (k + 1)) = WP.es (s.data.toList.take k) ++ (if WP.sp c = true then [92, c] else [c]) := by
  rw [take_snoc_b s k h, hc, WP.es_append, WP.es_one]
theorem take_all (s : ByteArray) : s.data.toList.take s.size = s.data.toList := List.take_of_length_le (by simp)
theorem ba_self (s : ByteArray) : (⟨s.data.toList.toArray⟩ : ByteArray) = s := by cases s; simp
theorem set_take (cur : List Value) (j : Nat) (v : Value) (h : j < cur.length) : (cur.set j v).take (j + 1) = cur.take j ++ [v] := by
  rw [List.take_succ_eq_append_getElem (by simpa using h), List.take_set_of_le (Nat.le_refl _)]
  simp
theorem splice_take (cur cs : List Value) (j : Nat) (h : j + cs.length ≤ cur.length) : (splice cur j cs).take (j + cs.length) = cur.take j ++ cs := by
  unfold splice
  rw [← List.append_assoc, List.take_append_of_le_length (by simp; omega)]
  exact List.take_of_length_le (by simp; omega)
theorem rp_info8 : (Tryd.prog.info? 5).map (fun i => (i.zero, i.size, i.bytes)) = some (some (.int .u8 0), 1, 1) := by kernel_rfl
theorem rp_size8 : (Tryd.prog.info? 5).map (·.size) = some 1 := by kernel_rfl
structure Buf (s : ByteArray) (W W2 : World) (m k j : Nat) : Prop where
  ex : ∃ cur : List Value, W2.heap[W.heap.size]? = some (.cells cur.toArray 5 (0, 0)) ∧ cur.length = m ∧ cur.take j = vals (WP.es (s.data.toList.take k))
  hj : j = (WP.es (s.data.toList.take k)).length
  bel : Below W.heap.size W W2
theorem buf_start (s : ByteArray) (W : World) (m : Nat) : Buf s W (W.alloc (.cells (madeCells #[.int .u8 0] m) 5)) m 0 0 :=
  ⟨⟨(madeCells #[.int .u8 0] m).toList, by rw [Array.toArray_toList]; exact heap_alloc_new W _, by simp [madeCells], rfl⟩, rfl, below_alloc (Below.refl _ _) _⟩
theorem buf_startN (s : ByteArray) (W : World) (m n : Nat) : Buf s W ((W.drewN n).alloc (.cells (madeCells #[.int .u8 0] m) 5)) m 0 0 :=
  ⟨⟨(madeCells #[.int .u8 0] m).toList, by rw [Array.toArray_toList]; exact heap_alloc_new (W.drewN n) _, by simp [madeCells], rfl⟩, rfl, below_alloc (pw_below_drewN (Below.refl _ _) n) _⟩
theorem buf_one {s : ByteArray} {W W2 : World} {m k j : Nat} (h : Buf s W W2 m k j) (hk : k < s.size) (c : UInt8) (hc : s[k]'hk = c) (hs : WP.sp c = false) (hm : (WP.es s.data.toList).length = m) :
    j < m ∧ (∃ v, W2.cell? ⟨W.heap.size, j, none⟩ = some v) ∧ W2.frozen? ⟨W.heap.size, j, none⟩ = false ∧ Buf s W (W2.setCell ⟨W.heap.size, j, none⟩ (.int .u8 (c.toNat : Int))) m (k + 1) (j + 1) := by
  obtain ⟨cur, hh, hl, ht⟩ := h.ex
  have he := es_step s k hk c hc
  rw [hs] at he
  simp only [Bool.false_eq_true, if_false] at he
  have hlt : j < m := by have := es_take_le s.data.toList (k + 1); rw [he, List.length_append, List.length_singleton] at this; have := h.hj; omega
  refine ⟨hlt, ⟨_, (blk_cell hh j).trans (by rw [List.getElem?_toArray, List.getElem?_eq_getElem (by omega)])⟩, blk_frozen hh j, ⟨⟨cur.set j (.int .u8 (c.toNat : Int)), ?_, by simpa using hl, ?_⟩, ?_, h.bel.setCell (Nat.le_refl _) _⟩⟩
  · have := blk_set hh j (.int .u8 (c.toNat : Int))
    rw [List.setIfInBounds_toArray] at this
    exact this
  · rw [set_take cur j _ (by omega), ht, he]
    simp [vals]
  · rw [he, h.hj]; simp
theorem buf_two {s : ByteArray} {W W2 : World} {m k j : Nat} (h : Buf s W W2 m k j) (hk : k < s.size) (c : UInt8) (hc : s[k]'hk = c) (hs : WP.sp c = true) (hm : (WP.es s.data.toList).length = m) :
    j + 2 ≤ m ∧ ∃ cur : List Value, W2.heap[W.heap.size]? = some (.cells cur.toArray 5 (0, 0)) ∧ cur.length = m ∧ ∀ w4, w4.heap[W.heap.size]? = some (.cells (splice cur j [.int .u8 92, .int .u8 (c.toNat : Int)]).toArray 5 (0, 0)) → Below W.heap.size W w4 → Buf s W w4 m (k + 1) (j + 2) := by
  obtain ⟨cur, hh, hl, ht⟩ := h.ex
  have he := es_step s k hk c hc
  rw [hs] at he
  simp only [if_true] at he
  have hlt : j + 2 ≤ m := by have := es_take_le s.data.toList (k + 1); rw [he, List.length_append] at this; simp only [List.length_cons, List.length_nil] at this; have := h.hj; omega
  refine ⟨hlt, cur, hh, hl, fun w4 h4 hb4 => ⟨⟨_, h4, by rw [length_splice _ _ _ (by simp; omega)]; exact hl, ?_⟩, ?_, hb4⟩⟩
  · rw [show j + 2 = j + [Value.int .u8 92, .int .u8 (c.toNat : Int)].length from rfl, splice_take _ _ _ (by simp; omega), ht, he]
    simp [vals]
  · rw [he, h.hj]; simp
theorem buf_end {s : ByteArray} {W W2 : World} {m j : Nat} (h : Buf s W W2 m s.size j) (hm : (WP.es s.data.toList).length = m) :
    (convert 39 9 (.slice (some ⟨W.heap.size, 0, none⟩) m m)).run Tryd.prog W2 = .ok (.string ⟨(WP.es s.data.toList).toArray⟩) W2 := by
  obtain ⟨cur, hh, hl, ht⟩ := h.ex
  have hj := h.hj
  rw [take_all] at ht hj
  have hcur : cur = vals (WP.es s.data.toList) := by rw [← ht]; exact (List.take_of_length_le (by omega)).symm
  subst hcur
  have := run_convert_bytes_arg (P := Tryd.prog) W2 39 5 Tryd.underlying39 Tryd.underlying5 W.heap.size 0 m m (by8 (WP.es s.data.toList)) (by rw [by8_len]; exact hm) (fun i hi => by
    rw [Nat.zero_add, blk_cell hh i, List.getElem?_toArray]
    simp only [vals, by8, List.getElem?_map, List.getD_eq_getElem?_getD]
    rw [List.getElem?_eq_getElem (by omega)]
    simp) 9 Tryd.underlying9
  rw [str_ba] at this
  exact this
set_option maxRecDepth 100000 in
set_option maxHeartbeats 8000000 in
theorem rep_small (W : World) (B : Nat) (hT : RT W B) (s : ByteArray) (hs : s.size ≤ 2000) (h16 : ¬ 16 ≤ s.size) :
    Calls Tryd.prog 110 #[.pointer (some ⟨B, 0, none⟩), .string s] W fun e w' => e = .returned (.string ⟨(WP.es s.data.toList).toArray⟩) ∧ Below W.heap.size W w' := by
  obtain ⟨x34, c34, x92, c92, t, ct, k34, k92, k256, kt0, kt1, k1, k2, k3, k4, kn⟩ := rt_cells hT
  have hBW : B < W.heap.size := World.block_lt_of_cell? _ _ k34
  have hX34 : x34 < W.heap.size := World.block_lt_of_cell? _ _ k1
  have hX92 : x92 < W.heap.size := World.block_lt_of_cell? _ _ k3
  have qN : ∀ (w : World) (a : Option Addr) (n c n' c' : Nat), (binOp .neq 39 (.slice a n c) (.slice none n' c')).run Tryd.prog w = .ok (.bool (!a.isNone)) w := fun w a n c n' c' => run_neq_slice_nil_any w _ _ a n c n' c' Tryd.underlying39
  have HN := Lib.hid kn
  clear kn hT
  have hd : decide (16 ≤ (s.size : Int)) = false := by simp; omega
  go_enter Tryd.func110, Tryd.ntmps110
  go_wp2_with fail
  go_loopg [5, 6, 10] s.size (fun g v5 v6 v10 W2 => W = W2 ∧ ∃ k m : Nat, g = s.size - k ∧ k ≤ s.size ∧ v10 = .int .i64 k ∧ v5 = .int .i64 m ∧ v6 = .bool (decide (0 < WP.cn (s.data.toList.take k))) ∧ m = s.size + WP.cn (s.data.toList.take k))
  case atStart => exact ⟨rfl, 0, s.size, by omega, by omega, rfl, rfl, rfl, by simp [WP.cn]⟩
  case round =>
    obtain ⟨rfl, k, m, hg, hk, rfl, rfl, rfl, hm⟩ := hrel
    have HG := Lib.hid hg
    have HM := Lib.hid hm
    have hm40 : m ≤ 4000 := by have := WP.cn_le (s.data.toList.take k); rw [List.length_take] at this; omega
    clear hg hm
    by_cases hk2 : k < s.size
    · obtain ⟨c, hc⟩ : ∃ c, s[k]'hk2 = c := ⟨_, rfl⟩
      have hts := take_snoc_b s k hk2
      rw [hc] at hts
      have hcn : WP.cn (s.data.toList.take (k + 1)) = WP.cn (s.data.toList.take k) + (if WP.sp c = true then 1 else 0) := by rw [hts, WP.cn_snoc]
      have hc256 : c.toNat < 256 := c.toNat_lt
      cases hs : WP.sp c
      · obtain ⟨n34, n92⟩ : c.toNat ≠ 34 ∧ c.toNat ≠ 92 := by simpa [WP.sp] using hs
        have dn := HN.out _ hc256 n34 n92
        rw [hs] at hcn
        have HCN := Lib.hid hcn
        clear hs n34 n92 hcn hts
        go_wp2_with fail
        go_roundg (s.size - (k + 1))
        case measure => have := HG.out; omega
        case rel => exact ⟨rfl, k + 1, m, rfl, by omega, rfl, rfl, by rw [HCN.out]; rfl, by rw [HCN.out]; exact HM.out⟩
      · have hcc : c.toNat = 34 ∨ c.toNat = 92 := (WP.sp_iff c).1 hs
        rw [hs] at hcn
        have HCN := Lib.hid hcn
        clear hs hcn hts
        rcases hcc with h34 | h92
        · have kx : W.cell? ⟨B, c.toNat, none⟩ = some (.slice (some ⟨x34, 0, none⟩) 2 c34) := by rw [h34]; exact k34
          clear h34
          go_wp2_with fail
          go_roundg (s.size - (k + 1))
          case measure => have := HG.out; omega
          case rel => exact ⟨rfl, k + 1, m + 1, rfl, by omega, rfl, rfl, by rw [HCN.out]; simp, by rw [HCN.out, HM.out]; rfl⟩
        · have kx : W.cell? ⟨B, c.toNat, none⟩ = some (.slice (some ⟨x92, 0, none⟩) 2 c92) := by rw [h92]; exact k92
          clear h92
          go_wp2_with fail
          go_roundg (s.size - (k + 1))
          case measure => have := HG.out; omega
          case rel => exact ⟨rfl, k + 1, m + 1, rfl, by omega, rfl, rfl, by rw [HCN.out]; simp, by rw [HCN.out, HM.out]; rfl⟩
    · have hkE : k = s.size := by omega
      subst hkE
      have hm := HM.out
      rw [take_all] at hm
      have hml : (WP.es s.data.toList).length = m := by rw [WP.es_len, hm]; try simp
      have HML := Lib.hid hml
      clear hml
      by_cases hz : WP.cn s.data.toList = 0
      · have hdz : decide (0 < WP.cn (List.take s.size s.data.toList)) = false := by rw [take_all, hz]; rfl
        have hsame : (⟨(WP.es s.data.toList).toArray⟩ : ByteArray) = s := by rw [WP.es_none _ hz]
        have HSAME := Lib.hid hsame
        clear hsame hz hm
        go_wp2_with fail
        go_ret
        have hfin : Ending.returned (.string s) = Ending.returned (.string ⟨(WP.es s.data.toList).toArray⟩) := by rw [HSAME.out]
        exact ⟨hfin, Below.refl _ _⟩
      · have hdz : decide (0 < WP.cn (List.take s.size s.data.toList)) = true := by rw [take_all]; first | (simp; done) | (simp; omega)
        have hmk := print_make (P := Tryd.prog) 39 5 .u8 1 Tryd.underlying39 rp_info8 (by decide) m (by omega)
        clear hz hm
        go_wp2_with fail
        clear hmk hdz
        go_loopg [13, 14] s.size (fun g v13 v14 W2 => ∃ k j : Nat, g = s.size - k ∧ k ≤ s.size ∧ v14 = .int .i64 k ∧ v13 = .int .i64 j ∧ Buf s W W2 m k j)
        case atStart => exact ⟨0, 0, by omega, by omega, rfl, rfl, buf_start s W m⟩
        case round =>
          obtain ⟨k, j, hg, hk, rfl, rfl, hB⟩ := hrel
          have HG := Lib.hid hg
          have hbl := hB.bel
          have d34 := (hbl.cell (p := ⟨B, 34, none⟩) hBW).trans k34
          have d92 := (hbl.cell (p := ⟨B, 92, none⟩) hBW).trans k92
          have d1 := (hbl.cell (p := ⟨x34, 0, none⟩) hX34).trans k1
          have d2 := (hbl.cell (p := ⟨x34, 1, none⟩) hX34).trans k2
          have d3 := (hbl.cell (p := ⟨x92, 0, none⟩) hX92).trans k3
          have d4 := (hbl.cell (p := ⟨x92, 1, none⟩) hX92).trans k4
          have hj40 : j ≤ 4000 := by have := es_take_le s.data.toList k; have := hB.hj; have := HML.out; omega
          have HBL := Lib.hid hbl
          have HB := Lib.hid hB
          clear hg hbl hB
          by_cases hk2 : k < s.size
          · obtain ⟨c, hc⟩ : ∃ c, s[k]'hk2 = c := ⟨_, rfl⟩
            have hc256 : c.toNat < 256 := c.toNat_lt
            cases hs : WP.sp c
            · obtain ⟨n34, n92⟩ : c.toNat ≠ 34 ∧ c.toNat ≠ 92 := by simpa [WP.sp] using hs
              have dn := (HBL.out.cell (p := ⟨B, c.toNat, none⟩) hBW).trans (HN.out _ hc256 n34 n92)
              obtain ⟨hjm, ⟨v, e1⟩, e2, hnext⟩ := buf_one HB.out hk2 c hc hs HML.out
              have HX := Lib.hid hnext
              clear hs n34 n92 hnext
              go_wp2_with fail
              go_roundg (s.size - (k + 1))
              case measure => have := HG.out; omega
              case rel => exact ⟨k + 1, j + 1, rfl, by omega, rfl, rfl, HX.out⟩
            · have hcc : c.toNat = 34 ∨ c.toNat = 92 := (WP.sp_iff c).1 hs
              obtain ⟨hjm, cur, hcur, hcl, hnext⟩ := buf_two HB.out hk2 c hc hs HML.out
              have HX := Lib.hid hnext
              have HCU := Lib.hid hcur
              have HCL := Lib.hid hcl
              clear hs hnext hcur hcl
              have hj1 : j ≤ m := by omega
              have hj2 : ¬ m = j := by omega
              have hci : (c.toNat : Int) < 256 := by omega
              rcases hcc with h34 | h92
              · have kx : wr.cell? ⟨B, c.toNat, none⟩ = some (.slice (some ⟨x34, 0, none⟩) 2 c34) := by rw [h34]; exact d34
                have HE := Lib.hid h34
                clear h34
                go_wp2_with fail
                go_region_law (refine step_copy_splice rfl (.tmp 105) (.tmp 111) 39 39 rfl 5 Tryd.underlying39 rp_size8 (some ⟨W.heap.size, j, none⟩) (some ⟨x34, 0, none⟩) (m - j) (m - j) 2 c34 rfl rfl W.heap.size j cur 5 HCU.out [.int .u8 92, .int .u8 34] (by show 2 = Nat.min 2 (m - j); simp only [Nat.min_def]; split <;> omega) (fun _ => ⟨rfl, _, rfl, fun i v hi => by match i, hi with | 0, hi => cases hi; rw [add_plain]; exact d1 | 1, hi => cases hi; rw [add_plain]; exact d2⟩) (by simp; have := HCL.out; omega) (by simp [Value.oneCell']) W.heap.size W HBL.out.drew (Nat.le_refl _) ?_; intro w4 hg4 hb4)
                go_wp2_with fail
                go_roundg (s.size - (k + 1))
                case measure => have := HG.out; omega
                case rel => exact ⟨k + 1, j + 2, rfl, by omega, rfl, rfl, HX.out _ (by rw [HE.out]; exact hg4.out) hb4⟩
              · have kx : wr.cell? ⟨B, c.toNat, none⟩ = some (.slice (some ⟨x92, 0, none⟩) 2 c92) := by rw [h92]; exact d92
                have HE := Lib.hid h92
                clear h92
                go_wp2_with fail
                go_region_law (refine step_copy_splice rfl (.tmp 105) (.tmp 111) 39 39 rfl 5 Tryd.underlying39 rp_size8 (some ⟨W.heap.size, j, none⟩) (some ⟨x92, 0, none⟩) (m - j) (m - j) 2 c92 rfl rfl W.heap.size j cur 5 HCU.out [.int .u8 92, .int .u8 92] (by show 2 = Nat.min 2 (m - j); simp only [Nat.min_def]; split <;> omega) (fun _ => ⟨rfl, _, rfl, fun i v hi => by match i, hi with | 0, hi => cases hi; rw [add_plain]; exact d3 | 1, hi => cases hi; rw [add_plain]; exact d4⟩) (by simp; have := HCL.out; omega) (by simp [Value.oneCell']) W.heap.size W HBL.out.drew (Nat.le_refl _) ?_; intro w4 hg4 hb4)
                go_wp2_with fail
                go_roundg (s.size - (k + 1))
                case measure => have := HG.out; omega
                case rel => exact ⟨k + 1, j + 2, rfl, by omega, rfl, rfl, HX.out _ (by rw [HE.out]; exact hg4.out) hb4⟩
          · obtain rfl : k = s.size := by omega
            have hcv := buf_end HB.out HML.out
            go_wp2_with fail
            go_ret
            exact ⟨rfl, HBL.out⟩
theorem count_cn (s : ByteArray) : WP.cn (s.data.toList.take s.size) = Lib.countByte s.data.toList 34 + Lib.countByte s.data.toList 92 := by
  rw [take_all, WP.cn_count]
  rfl
theorem count_le (s : ByteArray) (c : UInt8) : Lib.countByte s.data.toList c ≤ s.size := by
  have h : s.data.toList.count c ≤ s.data.toList.length := List.count_le_length
  exact h
set_option maxRecDepth 100000 in
set_option maxHeartbeats 8000000 in
theorem rep_big (W : World) (B : Nat) (hT : RT W B) (s : ByteArray) (hs : s.size ≤ 2000) (h16 : 16 ≤ s.size) :
    Calls Tryd.prog 110 #[.pointer (some ⟨B, 0, none⟩), .string s] W fun e w' => e = .returned (.string ⟨(WP.es s.data.toList).toArray⟩) ∧ Below W.heap.size W w' := by
  obtain ⟨x34, c34, x92, c92, t, ct, k34, k92, k256, kt0, kt1, k1, k2, k3, k4, kn⟩ := rt_cells hT
  have hBW : B < W.heap.size := World.block_lt_of_cell? _ _ k34
  have hX34 : x34 < W.heap.size := World.block_lt_of_cell? _ _ k1
  have hX92 : x92 < W.heap.size := World.block_lt_of_cell? _ _ k3
  have qN : ∀ (w : World) (a : Option Addr) (n c n' c' : Nat), (binOp .neq 39 (.slice a n c) (.slice none n' c')).run Tryd.prog w = .ok (.bool (!a.isNone)) w := fun w a n c n' c' => run_neq_slice_nil_any w _ _ a n c n' c' Tryd.underlying39
  have HN := Lib.hid kn
  clear kn hT
  have hix : ∀ h, ((⟨#[34]⟩ : ByteArray)[0]'h).toNat = 34 := fun _ => rfl
  have hiy : ∀ h, ((⟨#[92]⟩ : ByteArray)[0]'h).toNat = 92 := fun _ => rfl
  have hd : decide (16 ≤ (s.size : Int)) = true := by simp; omega
  have C34 := fun w => (Tryd.strings_Count_one s 34 w).mono (fun e w' (h : _ ∧ w' = w) => And.intro h.1 h.2.symm)
  have C92 := fun w => (Tryd.strings_Count_one s 92 w).mono (fun e w' (h : _ ∧ w' = w) => And.intro h.1 h.2.symm)
  have hcc := count_cn s
  have hl34 := count_le s 34
  have hl92 := count_le s 92
  generalize Lib.countByte s.data.toList 34 = n34 at C34 hcc hl34
  generalize Lib.countByte s.data.toList 92 = n92 at C92 hcc hl92
  have HC34 := Lib.hid C34
  have HC92 := Lib.hid C92
  have HCC := Lib.hid hcc
  clear C34 C92 hcc
  go_enter Tryd.func110, Tryd.ntmps110
  go_wp2_with fail
  go_loopg [5, 6, 32] 2 (fun g v5 v6 v32 W2 => (∃ nd, W2 = W.drewN nd) ∧ ((g = 2 ∧ v32 = .int .i64 0 ∧ v5 = .int .i64 s.size ∧ v6 = .bool false) ∨ (g = 1 ∧ v32 = .int .i64 1 ∧ ∃ m : Nat, v5 = .int .i64 m ∧ m = s.size + n34 ∧ v6 = .bool (decide (0 < n34))) ∨
    (g = 0 ∧ v32 = .int .i64 2 ∧ ∃ m : Nat, v5 = .int .i64 m ∧ m = s.size + WP.cn (s.data.toList.take s.size) ∧ v6 = .bool (decide (0 < WP.cn (s.data.toList.take s.size))))))
  case atStart => exact ⟨⟨0, rfl⟩, .inl ⟨rfl, rfl, rfl, rfl⟩⟩
  case round =>
    obtain ⟨⟨nd, rfl⟩, ⟨rfl, rfl, rfl, rfl⟩ | ⟨rfl, rfl, m, rfl, hm, rfl⟩ | ⟨rfl, rfl, m, rfl, hm, rfl⟩⟩ := hrel
    · by_cases hz : n34 = 0
      · subst hz
        go_wp2_with (go_at_call 39; refine (HC34.out _).mono ?_; rintro e w1 ⟨rfl, rfl⟩)
        go_roundg 1
        case measure => omega
        case rel => exact ⟨⟨nd, rfl⟩, .inr (.inl ⟨rfl, rfl, s.size, rfl, rfl, rfl⟩)⟩
      · have hz1 : ((n34 : Int) != 0) = true := by simp; omega
        clear hz
        go_wp2_with (go_at_call 39; refine (HC34.out _).mono ?_; rintro e w1 ⟨rfl, rfl⟩)
        go_quiet (fail)
        go_wp2_with fail
        go_roundg 1
        case measure => omega
        case rel => exact ⟨⟨nd + nq, rfl⟩, .inr (.inl ⟨rfl, rfl, s.size + n34, rfl, rfl, by congr 1; symm; simp; have := hz1; simp at this; omega⟩)⟩
    · have HM0 := Lib.hid hm
      have hm40 : m ≤ 4000 := by omega
      clear hm
      by_cases hz : n92 = 0
      · subst hz
        go_wp2_with (go_at_call 39; refine (HC92.out _).mono ?_; rintro e w1 ⟨rfl, rfl⟩)
        go_roundg 0
        case measure => omega
        case rel => exact ⟨⟨nd, rfl⟩, .inr (.inr ⟨rfl, rfl, m, rfl, by rw [HCC.out]; exact HM0.out, by rw [HCC.out]; rfl⟩)⟩
      · have hz1 : ((n92 : Int) != 0) = true := by simp; omega
        clear hz
        go_wp2_with (go_at_call 39; refine (HC92.out _).mono ?_; rintro e w1 ⟨rfl, rfl⟩)
        go_quiet (fail)
        go_wp2_with fail
        go_roundg 0
        case measure => omega
        case rel => exact ⟨⟨nd + nq, rfl⟩, .inr (.inr ⟨rfl, rfl, m + n92, rfl, by rw [HCC.out, HM0.out]; omega, by rw [HCC.out]; congr 1; symm; simp; have := hz1; simp at this; omega⟩)⟩
    · have HM := Lib.hid hm
      have hm40 : m ≤ 4000 := by have := WP.cn_le (s.data.toList.take s.size); rw [List.length_take] at this; omega
      clear hm
      have hm := HM.out
      rw [take_all] at hm
      have hml : (WP.es s.data.toList).length = m := by rw [WP.es_len, hm]; try simp
      have HML := Lib.hid hml
      clear hml
      by_cases hz : WP.cn s.data.toList = 0
      · have hdz : decide (0 < WP.cn (List.take s.size s.data.toList)) = false := by rw [take_all, hz]; rfl
        have hsame : (⟨(WP.es s.data.toList).toArray⟩ : ByteArray) = s := by rw [WP.es_none _ hz]
        have HSAME := Lib.hid hsame
        clear hsame hz hm
        go_wp2_with fail
        go_ret
        have hfin : Ending.returned (.string s) = Ending.returned (.string ⟨(WP.es s.data.toList).toArray⟩) := by rw [HSAME.out]
        exact ⟨hfin, pw_below_drewN (Below.refl _ _) nd⟩
      · have hdz : decide (0 < WP.cn (List.take s.size s.data.toList)) = true := by rw [take_all]; first | (simp; done) | (simp; omega)
        have hmk := print_make (P := Tryd.prog) 39 5 .u8 1 Tryd.underlying39 rp_info8 (by decide) m (by omega)
        clear hz hm
        go_wp2_with fail
        clear hmk hdz
        go_loopg [13, 14] s.size (fun g v13 v14 W2 => ∃ k j : Nat, g = s.size - k ∧ k ≤ s.size ∧ v14 = .int .i64 k ∧ v13 = .int .i64 j ∧ Buf s W W2 m k j)
        case atStart => exact ⟨0, 0, by omega, by omega, rfl, rfl, buf_startN s W m nd⟩
        case round =>
          obtain ⟨k, j, hg, hk, rfl, rfl, hB⟩ := hrel
          have HG := Lib.hid hg
          have hbl := hB.bel
          have d34 := (hbl.cell (p := ⟨B, 34, none⟩) hBW).trans k34
          have d92 := (hbl.cell (p := ⟨B, 92, none⟩) hBW).trans k92
          have d1 := (hbl.cell (p := ⟨x34, 0, none⟩) hX34).trans k1
          have d2 := (hbl.cell (p := ⟨x34, 1, none⟩) hX34).trans k2
          have d3 := (hbl.cell (p := ⟨x92, 0, none⟩) hX92).trans k3
          have d4 := (hbl.cell (p := ⟨x92, 1, none⟩) hX92).trans k4
          have hj40 : j ≤ 4000 := by have := es_take_le s.data.toList k; have := hB.hj; have := HML.out; omega
          have HBL := Lib.hid hbl
          have HB := Lib.hid hB
          clear hg hbl hB
          by_cases hk2 : k < s.size
          · obtain ⟨c, hc⟩ : ∃ c, s[k]'hk2 = c := ⟨_, rfl⟩
            have hc256 : c.toNat < 256 := c.toNat_lt
            cases hs : WP.sp c
            · obtain ⟨n34, n92⟩ : c.toNat ≠ 34 ∧ c.toNat ≠ 92 := by simpa [WP.sp] using hs
              have dn := (HBL.out.cell (p := ⟨B, c.toNat, none⟩) hBW).trans (HN.out _ hc256 n34 n92)
              obtain ⟨hjm, ⟨v, e1⟩, e2, hnext⟩ := buf_one HB.out hk2 c hc hs HML.out
              have HX := Lib.hid hnext
              clear hs n34 n92 hnext
              go_wp2_with fail
              go_roundg (s.size - (k + 1))
              case measure => have := HG.out; omega
              case rel => exact ⟨k + 1, j + 1, rfl, by omega, rfl, rfl, HX.out⟩
            · have hcc : c.toNat = 34 ∨ c.toNat = 92 := (WP.sp_iff c).1 hs
              obtain ⟨hjm, cur, hcur, hcl, hnext⟩ := buf_two HB.out hk2 c hc hs HML.out
              have HX := Lib.hid hnext
              have HCU := Lib.hid hcur
              have HCL := Lib.hid hcl
              clear hs hnext hcur hcl
              have hj1 : j ≤ m := by omega
              have hj2 : ¬ m = j := by omega
              have hci : (c.toNat : Int) < 256 := by omega
              rcases hcc with h34 | h92
              · have kx : wr.cell? ⟨B, c.toNat, none⟩ = some (.slice (some ⟨x34, 0, none⟩) 2 c34) := by rw [h34]; exact d34
                have HE := Lib.hid h34
                clear h34
                go_wp2_with fail
                go_region_law (refine step_copy_splice rfl (.tmp 105) (.tmp 111) 39 39 rfl 5 Tryd.underlying39 rp_size8 (some ⟨W.heap.size, j, none⟩) (some ⟨x34, 0, none⟩) (m - j) (m - j) 2 c34 rfl rfl W.heap.size j cur 5 HCU.out [.int .u8 92, .int .u8 34] (by show 2 = Nat.min 2 (m - j); simp only [Nat.min_def]; split <;> omega) (fun _ => ⟨rfl, _, rfl, fun i v hi => by match i, hi with | 0, hi => cases hi; rw [add_plain]; exact d1 | 1, hi => cases hi; rw [add_plain]; exact d2⟩) (by simp; have := HCL.out; omega) (by simp [Value.oneCell']) W.heap.size W HBL.out.drew (Nat.le_refl _) ?_; intro w4 hg4 hb4)
                go_wp2_with fail
                go_roundg (s.size - (k + 1))
                case measure => have := HG.out; omega
                case rel => exact ⟨k + 1, j + 2, rfl, by omega, rfl, rfl, HX.out _ (by rw [HE.out]; exact hg4.out) hb4⟩
              · have kx : wr.cell? ⟨B, c.toNat, none⟩ = some (.slice (some ⟨x92, 0, none⟩) 2 c92) := by rw [h92]; exact d92
                have HE := Lib.hid h92
                clear h92
                go_wp2_with fail
                go_region_law (refine step_copy_splice rfl (.tmp 105) (.tmp 111) 39 39 rfl 5 Tryd.underlying39 rp_size8 (some ⟨W.heap.size, j, none⟩) (some ⟨x92, 0, none⟩) (m - j) (m - j) 2 c92 rfl rfl W.heap.size j cur 5 HCU.out [.int .u8 92, .int .u8 92] (by show 2 = Nat.min 2 (m - j); simp only [Nat.min_def]; split <;> omega) (fun _ => ⟨rfl, _, rfl, fun i v hi => by match i, hi with | 0, hi => cases hi; rw [add_plain]; exact d3 | 1, hi => cases hi; rw [add_plain]; exact d4⟩) (by simp; have := HCL.out; omega) (by simp [Value.oneCell']) W.heap.size W HBL.out.drew (Nat.le_refl _) ?_; intro w4 hg4 hb4)
                go_wp2_with fail
                go_roundg (s.size - (k + 1))
                case measure => have := HG.out; omega
                case rel => exact ⟨k + 1, j + 2, rfl, by omega, rfl, rfl, HX.out _ (by rw [HE.out]; exact hg4.out) hb4⟩
          · obtain rfl : k = s.size := by omega
            have hcv := buf_end HB.out HML.out
            go_wp2_with fail
            go_ret
            exact ⟨rfl, HBL.out⟩
theorem rep_any (W : World) (B : Nat) (hT : RT W B) (s : ByteArray) (hs : s.size ≤ 2000) :
    Calls Tryd.prog 110 #[.pointer (some ⟨B, 0, none⟩), .string s] W fun e w' => e = .returned (.string ⟨(WP.es s.data.toList).toArray⟩) ∧ Below W.heap.size W w' := by
  by_cases h : 16 ≤ s.size
  · exact rep_big W B hT s hs h
  · exact rep_small W B hT s hs h
end Go.Proofs.YtbfeokfninedcaaDoor.Ext
set_option linter.unusedVariables false
set_option linter.unusedSimpArgs false
namespace Go.Proofs.YtbfeokfninedcaaDoor.Ext
open Go.RowKit Go.Proofs.YtbfeokfninedcaaDoorW.PrintWords Go.Proofs.YtbfeokfninedcaaDoorW.PrintLast
theorem on_load (a : Addr) (d : Int) (b : Bool) (hb : (d != 0) = b) (w : World) (hc : w.cell? a = some (.int .u32 d)) :
    Calls Tryd.prog 33 #[.pointer (some a)] w fun e w' => e = .returned (.bool b) ∧ w = w' := by
  have hl := run_call_load (P := Tryd.prog) Tryd.func42 (by kernel_rfl) (by kernel_rfl) (by kernel_rfl) .u32 (by kernel_rfl) hc
  go_enter Tryd.func33, Tryd.ntmps33
  go_wp2
  go_ret
  exact ⟨by first | rfl | (simp [hb]; done) | simp_all, rfl⟩
def Iv (n : Nat) : Value := .iface 88 (.pointer (some ⟨n, 0, none⟩))
def BO (W : World) (R : Nat) (e : Ending) (w' : World) : Prop :=
  e = .returned (.tuple #[]) ∧ ∃ wb, BSt W wb 0 ∧ w' = (wb.setCell ⟨R, 3, none⟩ (Iv (W.heap.size + 1))).setCell ⟨R, 4, none⟩ (.slice none 0 0)
theorem bst_bel {w W : World} {g : Nat} (h : BSt w W g) : Below w.heap.size w W := by
  obtain ⟨_, _, _, _, _, _, hb, _⟩ := h.ex
  exact hb
structure Four (W : World) (g : Nat) : Prop where
  h0 : W.cell? ⟨g, 0, none⟩ = some (.string ⟨#[92]⟩)
  h1 : W.cell? ⟨g, 1, none⟩ = some (.string ⟨#[92, 92]⟩)
  h2 : W.cell? ⟨g, 2, none⟩ = some (.string ⟨#[34]⟩)
  h3 : W.cell? ⟨g, 3, none⟩ = some (.string ⟨#[92, 34]⟩)
set_option maxRecDepth 100000 in
set_option maxHeartbeats 4000000 in
theorem on_build (W : World) (R g c : Nat) (x0 x1 x2 x3 : Value) (hR : W.heap[R]? = some (.cells #[x0, x1, x2, x3, .slice (some ⟨g, 0, none⟩) 4 c] 57 (0, 0))) (h : Four W g) :
    Calls Tryd.prog 27 #[.pointer (some ⟨R, 0, none⟩)] W (BO W R) := by
  have HC := Lib.hid (rp_build W R g c x0 x1 x2 x3 hR h.h0 h.h1 h.h2 h.h3)
  have HR := Lib.hid hR
  clear hR h
  go_enter Tryd.func27, Tryd.ntmps27
  go_wp2_with (go_at_call 35; refine HC.out.mono ?_; rintro e wb ⟨rfl, hB⟩; have HB := Lib.hid hB; have hRb := ((bst_bel hB).block R (blk_lt HR.out)).trans HR.out; have r3 := (blk_cell hRb 3).trans rfl; have r4 := (blk_cell hRb 4).trans rfl; have z3 := blk_frozen hRb 3; have z4 := blk_frozen hRb 4; clear hB hRb)
  go_end0
  exact ⟨rfl, _, HB.out, rfl⟩
def Done (W : World) (R : Nat) (e : Ending) (w' : World) : Prop :=
  e = .returned (.tuple #[]) ∧ ∃ wb, BSt (W.setCell ⟨R, 1, none⟩ (.int .i32 1)) wb 0 ∧ w' = ((((wb.setCell ⟨R, 3, none⟩ (Iv (W.heap.size + 1))).setCell ⟨R, 4, none⟩ (.slice none 0 0)).drew.setCell ⟨R, 0, none⟩ (.int .u32 1)).setCell ⟨R, 1, none⟩ (.int .i32 0))
theorem four_set {W : World} {g R : Nat} {cs : Array Value} (h : Four W g) (hR : W.heap[R]? = some (.cells cs 57 (0, 0))) (hne : g ≠ R) (j : Nat) (v : Value) : Four (W.setCell ⟨R, j, none⟩ v) g :=
  ⟨(World.cell?_setCell_other _ _ _ _ (by intro he; injection he with he; exact hne he.symm)).trans h.h0, (World.cell?_setCell_other _ _ _ _ (by intro he; injection he with he; exact hne he.symm)).trans h.h1,
   (World.cell?_setCell_other _ _ _ _ (by intro he; injection he with he; exact hne he.symm)).trans h.h2, (World.cell?_setCell_other _ _ _ _ (by intro he; injection he with he; exact hne he.symm)).trans h.h3⟩
set_option maxRecDepth 100000 in
set_option maxHeartbeats 4000000 in
theorem on_slow (W : World) (R g c : Nat) (hR : W.heap[R]? = some (.cells #[.int .u32 0, .int .i32 0, .int .u32 0, .nilIface, .slice (some ⟨g, 0, none⟩) 4 c] 57 (0, 0))) (h : Four W g) (hne : g ≠ R) :
    Calls Tryd.prog 34 #[.pointer (some ⟨R, 0, none⟩), .func (.func 27) #[.pointer (some ⟨R, 0, none⟩)] #[]] W (Done W R) := by
  have hR1 := blk_set hR 1 (.int .i32 1)
  have c0 := (blk_cell hR1 0).trans rfl
  have d1 := (blk_cell hR 1).trans rfl
  have z1 := blk_frozen hR 1
  have HL := Lib.hid (on_load ⟨R, 0, none⟩ 0 false rfl (W.setCell ⟨R, 1, none⟩ (.int .i32 1)) c0)
  have HK := Lib.hid (on_lock_free ⟨R, 1, none⟩ W d1 z1)
  have HB := Lib.hid (on_build (W.setCell ⟨R, 1, none⟩ (.int .i32 1)) R g c _ _ _ _ hR1 (four_set h hR hne 1 _))
  have HR := Lib.hid hR1
  have hnot : ∀ (x : Bool) (w : World), (Op.unary .not (.bool x)).run Tryd.prog w = .ok (.bool (!x)) w := fun _ _ => rfl
  clear hR hR1 h c0 d1 z1
  go_enter_defers Tryd.func34, Tryd.ntmps34
  go_wp2_with (first | (go_at_call 43; refine HK.out.mono ?_; rintro e w' ⟨rfl, rfl⟩) | (go_at_call 33; refine HL.out.mono ?_; rintro e w' ⟨rfl, rfl⟩) | (go_at_call 27; refine HB.out.mono ?_; rintro e w2 ⟨rfl, wb, hB, rfl⟩))
  have hb := ((bst_bel hB).block R (blk_lt HR.out)).trans HR.out
  have hb3 := blk_set hb 3 (Iv (W.heap.size + 1))
  have hb4 := blk_set hb3 4 (.slice none 0 0)
  refine leaves_cons (f := 45) (args := #[.pointer (some ⟨R, 0, none⟩), .bool true]) (by simp) (by simp [go_sem]) ?_
  refine (on_store_deferred ⟨R, 0, none⟩ (.int .u32 0) .returning _ ((blk_cell hb4 0).trans rfl) (blk_frozen hb4 0)).mono ?_
  rintro e u' w'' ⟨rfl, rfl, rfl⟩
  have hb5 := blk_set (w := ((wb.setCell ⟨R, 3, none⟩ (Iv (W.heap.size + 1))).setCell ⟨R, 4, none⟩ (.slice none 0 0)).drew) hb4 0 (.int .u32 1)
  refine leaves_cons (f := 44) (args := #[.pointer (some ⟨R, 1, none⟩)]) (by simp [settle]) (by simp [go_sem]) ?_
  refine (on_unlock_deferred ⟨R, 1, none⟩ _ _ ((blk_cell hb5 1).trans rfl) (blk_frozen hb5 1)).mono ?_
  rintro e u' w'' ⟨rfl, rfl, rfl⟩
  simp [Leaves, settle, results, Tryd.results34]
  exact ⟨rfl, wb, hB, rfl⟩
set_option maxRecDepth 100000 in
set_option maxHeartbeats 4000000 in
theorem on_do (W : World) (R g c : Nat) (hR : W.heap[R]? = some (.cells #[.int .u32 0, .int .i32 0, .int .u32 0, .nilIface, .slice (some ⟨g, 0, none⟩) 4 c] 57 (0, 0))) (h : Four W g) (hne : g ≠ R) :
    Calls Tryd.prog 26 #[.pointer (some ⟨R, 0, none⟩), .func (.func 27) #[.pointer (some ⟨R, 0, none⟩)] #[]] W (Done W R) := by
  have HL := Lib.hid (on_load ⟨R, 0, none⟩ 0 false rfl W ((blk_cell hR 0).trans rfl))
  have HS := Lib.hid (on_slow W R g c hR h hne)
  have hnot : ∀ (x : Bool) (w : World), (Op.unary .not (.bool x)).run Tryd.prog w = .ok (.bool (!x)) w := fun _ _ => rfl
  clear hR h
  go_enter Tryd.func26, Tryd.ntmps26
  go_wp2_with (first | (go_at_call 33; refine HL.out.mono ?_; rintro e w' ⟨rfl, rfl⟩) | (go_at_call 34; refine HS.out.mono ?_; rintro e w2 ⟨rfl, hw2⟩))
  go_end0
  exact ⟨rfl, hw2⟩
theorem rt_drew {W : World} {B : Nat} (h : RT W B) : RT W.drew B := rt_below h (below_drew (Below.refl _ _))
theorem done_is {W w' : World} {R g c : Nat} (hR : W.heap[R]? = some (.cells #[.int .u32 0, .int .i32 0, .int .u32 0, .nilIface, .slice (some ⟨g, 0, none⟩) 4 c] 57 (0, 0)))
    (h : ∃ wb, BSt (W.setCell ⟨R, 1, none⟩ (.int .i32 1)) wb 0 ∧ w' = ((((wb.setCell ⟨R, 3, none⟩ (Iv (W.heap.size + 1))).setCell ⟨R, 4, none⟩ (.slice none 0 0)).drew.setCell ⟨R, 0, none⟩ (.int .u32 1)).setCell ⟨R, 1, none⟩ (.int .i32 0))) :
    w'.cell? ⟨R, 3, none⟩ = some (Iv (W.heap.size + 1)) ∧ RT w' (W.heap.size + 1) ∧ ∀ b, b ≤ R → Below b W w' := by
  obtain ⟨wb, hB, rfl⟩ := h
  have hR1 := blk_set hR 1 (.int .i32 1)
  have hb := ((bst_bel hB).block R (blk_lt hR1)).trans hR1
  have hb3 := blk_set hb 3 (Iv (W.heap.size + 1))
  have hb4 := blk_set hb3 4 (.slice none 0 0)
  have hb5 := blk_set (w := ((wb.setCell ⟨R, 3, none⟩ (Iv (W.heap.size + 1))).setCell ⟨R, 4, none⟩ (.slice none 0 0)).drew) hb4 0 (.int .u32 1)
  have hb6 := blk_set hb5 1 (.int .i32 0)
  have hT := rt_of hB
  rw [show (W.setCell ⟨R, 1, none⟩ (.int .i32 1)).heap.size = W.heap.size by simp] at hT
  have hT2 : RT ((wb.setCell ⟨R, 3, none⟩ (Iv (W.heap.size + 1))).setCell ⟨R, 4, none⟩ (.slice none 0 0)).drew (W.heap.size + 1) := rt_drew (rt_set (rt_set hT hb 3 _) hb3 4 _)
  refine ⟨(blk_cell hb6 3).trans rfl, rt_set (rt_set hT2 hb4 0 _) hb5 1 _, fun b hbR => ?_⟩
  have hlt := blk_lt hR
  have b1 : Below b W (W.setCell ⟨R, 1, none⟩ (.int .i32 1)) := (Below.refl b W).setCell hbR _
  have b2 : Below b W wb := b1.trans ((bst_bel hB).mono (by simp; omega))
  have b3 : Below b W ((wb.setCell ⟨R, 3, none⟩ (Iv (W.heap.size + 1))).setCell ⟨R, 4, none⟩ (.slice none 0 0)) := (b2.setCell hbR _).setCell hbR _
  exact ((below_drew b3).setCell hbR _).setCell hbR _
set_option maxRecDepth 100000 in
set_option maxHeartbeats 4000000 in
theorem repl_any (W : World) (R g c : Nat) (hR : W.heap[R]? = some (.cells #[.int .u32 0, .int .i32 0, .int .u32 0, .nilIface, .slice (some ⟨g, 0, none⟩) 4 c] 57 (0, 0))) (h : Four W g) (hne : g ≠ R) (s : ByteArray) (hs : s.size ≤ 2000) :
    Calls Tryd.prog 20 #[.pointer (some ⟨R, 0, none⟩), .string s] W fun e w' => e = .returned (.string ⟨(WP.es s.data.toList).toArray⟩) ∧ ∀ b, b ≤ R → Below b W w' := by
  have HD := Lib.hid (on_do W R g c hR h hne)
  have HR := Lib.hid hR
  have hmf : ∀ (fn : Fn) (first cap : Array Value) (w : World), (Instr.makeFunc fn first cap).run Tryd.prog w = .ok (.func fn first cap) w := fun _ _ _ _ => rfl
  have hme : ∀ (a : Addr) (w : World), (method 258 88 (.pointer (some a)) "Replace").run Tryd.prog w = .ok (110, .pointer (some a)) w := fun a w => by kernel_rfl
  clear hR h
  go_enter Tryd.func20, Tryd.ntmps20
  go_wp2_with (first | (go_at_call 26; refine HD.out.mono ?_; rintro e w2 ⟨rfl, hw2⟩; obtain ⟨k3, hT, hbel⟩ := done_is HR.out hw2; unfold Iv at k3; have HT := Lib.hid hT; have HBL := Lib.hid hbel; clear hw2 hT hbel) | (go_at_call 110; refine (rep_any _ _ HT.out s hs).mono ?_; rintro e w3 ⟨rfl, hb3⟩; have HB3 := Lib.hid hb3; clear hb3))
  go_ret
  exact ⟨rfl, fun b hb => (HBL.out b hb).trans (HB3.out.mono (by have := (HBL.out b hb).size; have := blk_lt HR.out; omega))⟩
theorem four_own {w1 : World} {base : Nat} {v1 : Value} (h : w1.ownsRow base 9 1 v1 4 [Value.string ⟨#[92]⟩, Value.string ⟨#[92, 92]⟩, Value.string ⟨#[34]⟩, Value.string ⟨#[92, 34]⟩]) :
    ∃ g c, v1 = .slice (some ⟨g, 0, none⟩) 4 c ∧ base ≤ g ∧ g < w1.heap.size ∧ Four w1 g := by
  rcases h.2 with ⟨_, h0⟩ | ⟨g, c, cur, rfl, hg, hh, _⟩
  · cases h0
  have o0 := h.cells (g := g) rfl 0 (.string ⟨#[92]⟩) rfl
  have o1 := h.cells (g := g) rfl 1 (.string ⟨#[92, 92]⟩) rfl
  have o2 := h.cells (g := g) rfl 2 (.string ⟨#[34]⟩) rfl
  have o3 := h.cells (g := g) rfl 3 (.string ⟨#[92, 34]⟩) rfl
  rw [add_plain] at o0 o1 o2 o3
  exact ⟨g, c, rfl, hg, blk_lt hh, o0, o1, o2, o3⟩
theorem four_below {W W' : World} {g : Nat} (h : Four W g) (hb : Below W.heap.size W W') : Four W' g := ⟨pw_cell_below hb h.h0, pw_cell_below hb h.h1, pw_cell_below hb h.h2, pw_cell_below hb h.h3⟩
def NR (w : World) (e : Ending) (w' : World) : Prop :=
  ∃ R g c, e = .returned (.pointer (some ⟨R, 0, none⟩)) ∧ w'.heap[R]? = some (.cells #[.int .u32 0, .int .i32 0, .int .u32 0, .nilIface, .slice (some ⟨g, 0, none⟩) 4 c] 57 (0, 0)) ∧ Four w' g ∧ g ≠ R ∧ w.heap.size ≤ R ∧ Below w.heap.size w w'
set_option maxRecDepth 100000 in
set_option maxHeartbeats 4000000 in
theorem new_repl (w : World) (b c0 : Nat) (h : Four w b) :
    Calls Tryd.prog 19 #[.slice (some ⟨b, 0, none⟩) 4 c0] w (NR w) := by
  have HF := Lib.hid h
  clear h
  obtain ⟨i0, hi, hzz⟩ := Option.map_eq_some_iff.1 info_str
  simp only [Prod.mk.injEq] at hzz
  obtain ⟨hz0, hz1, hz2⟩ := hzz
  have HI := Lib.hid hi
  have HZ0 := Lib.hid hz0
  have HZ1 := Lib.hid hz1
  have HZ2 := Lib.hid hz2
  clear hi hz0 hz1 hz2
  go_enter Tryd.func19, Tryd.ntmps19
  go_wp2_with (at_builtin; (refine wpList_append_own_at _ rfl (.const (.slice none 0 0)) (.tmp 8) 22 rfl w.heap.size 9 i0 (.string ByteArray.empty) 1 16 Tryd.underlying22 HI.out HZ0.out HZ1.out HZ2.out rfl (by decide) (.slice none 0 0) 0 [] rfl (own_nil _ _ _ _) ⟨b, 0, none⟩ 4 c0 [Value.string ⟨#[92]⟩, Value.string ⟨#[92, 92]⟩, Value.string ⟨#[34]⟩, Value.string ⟨#[92, 34]⟩] rfl rfl (fun j u hj => by match j, hj with | 0, hj => cases hj; rw [add_plain]; exact HF.out.h0 | 1, hj => cases hj; rw [add_plain]; exact HF.out.h1 | 2, hj => cases hj; rw [add_plain]; exact HF.out.h2 | 3, hj => cases hj; rw [add_plain]; exact HF.out.h3) (by simp [Value.oneCell']) (by simp [maxLen]) (by decide) (Nat.le_refl _) ?_; intro v1 w1 hown hg _ hat; obtain ⟨g, c, ev, hg0, hg1, hF1⟩ := four_own hown; subst ev; have HX := Lib.hid (And.intro hF1 (And.intro hg0 (And.intro hg1 hg))); clear hown hg hat hg0 hg1 hF1))
  obtain ⟨hF1, hg0, hg1, hgr⟩ := HX.out
  have hbw : Below w.heap.size w w1 := ⟨hgr.os, hgr.tape, hgr.output, hgr.size, fun i hi => hgr.block i hi (by simp [Value.ownBlock])⟩
  go_ret
  exact ⟨w1.heap.size, g, c, rfl, heap_alloc_new w1 _, four_below hF1 (below_alloc (Below.refl _ _) _), by omega, hbw.size, below_alloc hbw _⟩
end Go.Proofs.YtbfeokfninedcaaDoor.Ext
set_option linter.unusedVariables false
set_option linter.unusedSimpArgs false
namespace Go.Proofs.YtbfeokfninedcaaDoor.Ext
open Go.RowKit Go.Proofs.YtbfeokfninedcaaDoorW.PrintWords Go.Proofs.YtbfeokfninedcaaDoorW.PrintLast Go.Proofs.YtbfeokfninedcaaDoor.PWrdA
theorem bt_nat (s : ByteArray) (k : Nat) (h : k < s.size) : bt s (k : Int) = (s[k].toNat : Int) := by simp [bt, h]
theorem may_f (c : UInt8) : words_may.f (c.toNat : Int) = some (WP.may c) := by
  unfold words_may.f WP.may
  have h256 : c.toNat < 256 := c.toNat_lt
  by_cases h1 : 32 ≤ c.toNat
  · by_cases h2 : c.toNat ≤ 126
    · rw [if_pos (by omega), if_pos (by omega)]; simp [h1, h2]
    · rw [if_pos (by omega), if_neg (by omega)]
      have e : ((c.toNat : Int) == 9) = decide (c.toNat = 9) := by rw [Bool.eq_iff_iff]; simp; omega
      rw [e]; simp [h1, h2]
  · rw [if_neg (by omega)]
    have e : ((c.toNat : Int) == 9) = decide (c.toNat = 9) := by rw [Bool.eq_iff_iff]; simp; omega
    rw [e]; simp [h1]
theorem blank_f (c : UInt8) : words_blank.f (c.toNat : Int) = some (WP.blk c) := by
  unfold words_blank.f WP.blk
  by_cases h1 : c.toNat = 32
  · rw [if_pos (by omega)]; simp [h1]
  · rw [if_neg (by omega)]
    have e : ((c.toNat : Int) == 9) = decide (c.toNat = 9) := by rw [Bool.eq_iff_iff]; simp; omega
    rw [e]; simp [h1]
theorem toList_data (s : ByteArray) : s.toList = s.data.toList := ByteArray.toList_eq s
theorem plain_l0 (s : ByteArray) (hs : s.size ≤ 9223372036854775807) : ∀ (f k : Nat), s.size - k < f → k ≤ s.size →
    words_Plain.l0 f s (s.size : Int) (k : Int) = some ((s.data.toList.drop k).all WP.pb && (match s.data.toList with | [] => false | c :: _ => !decide (c.toNat = 35))) := by
  intro f
  induction f with
  | zero => intro k h; omega
  | succ f ih =>
    intro k h hk
    unfold words_Plain.l0
    by_cases hlt : k < s.size
    · rw [if_pos (by omega), if_pos (by omega), if_pos (by omega), bt_nat s k hlt, may_f, drop_at s k hlt]
      simp only [Option.bind_some, List.all_cons]
      obtain ⟨c, hc⟩ : ∃ c, s[k] = c := ⟨_, rfl⟩
      rw [hc]
      by_cases h1 : WP.may c = true
      · rw [if_pos h1, blank_f]
        simp only [Option.bind_some]
        by_cases h2 : WP.blk c = true
        · rw [if_pos h2]; simp [WP.pb, h2]
        · rw [if_neg h2]
          by_cases h3 : c.toNat = 34
          · rw [if_pos (by omega)]; simp [WP.pb, h3]
          · rw [if_neg (by omega)]
            by_cases h4 : c.toNat = 92
            · rw [if_pos (by omega)]; simp [WP.pb, h4]
            · rw [if_neg (by omega), show wrap64 ((k : Int) + 1) = ((k + 1 : Nat) : Int) by unfold wrap64; omega, ih (k + 1) (by omega) (by omega)]
              have : WP.pb c = true := by simp [WP.pb, h1, h2, h3, h4]
              rw [this]; simp
      · rw [if_neg h1]; simp [WP.pb, h1]
    · rw [if_neg (by omega), toList_data, drop_end s k (by omega)]
      cases hd : s.data.toList with
      | nil => rw [if_pos rfl]; rfl
      | cons c r =>
        have h0 : 0 < s.size := by have := congrArg List.length hd; simp at this; omega
        have hc : s[0] = c := by
          have := drop_at s 0 h0
          rw [List.drop_zero, hd] at this
          exact (List.cons.inj this).1.symm
        rw [if_neg (by simp), if_pos (by omega), show (0 : Int) = ((0 : Nat) : Int) from rfl, bt_nat s 0 h0, hc]
        have e : ((c.toNat : Int) != 35) = !decide (c.toNat = 35) := by
          rw [Bool.eq_iff_iff]; simp; omega
        rw [e]; rfl
theorem plain_is (s : ByteArray) (hs : s.size ≤ 9223372036854775807) (f : Nat) (hf : s.size < f) : words_Plain.f f s = some (WP.plain s.data.toList) := by
  unfold words_Plain.f
  have h := plain_l0 s hs f 0 (by omega) (Nat.zero_le _)
  rw [show ((0 : Nat) : Int) = 0 from rfl] at h
  rw [h, List.drop_zero]
  cases s.data.toList with
  | nil => rfl
  | cons c r => simp only [WP.plain]; rw [Bool.and_comm]
theorem plain_call (s : ByteArray) (hs : s.size ≤ 2000) (b : Bool) (hb : WP.plain s.data.toList = b) (w : World) :
    Calls Tryd.prog 8 #[.string s] w fun e w' => e = .returned (.bool b) ∧ Drawn0 w w' :=
  words_Plain.calls (s.size + 1) s b w (by rw [plain_is s (by omega) _ (by omega), hb])
def bl (s : ByteArray) : List UInt8 := s.data.toList
structure JB (L : List ByteArray) (w W : World) (i : Nat) (v : Value) : Prop where
  own : W.ownsRow w.heap.size 9 1 v i (strs ((L.take i).map (fun s => WP.qt (bl s))))
  bel : Below w.heap.size w W
  may : ∀ x ∈ L.take i, (bl x).all WP.may = true
theorem qt_len (l : List UInt8) : (WP.qt l).length ≤ 2 * l.length + 2 := by
  unfold WP.qt
  split
  · omega
  · have := WP.es_len l
    have := WP.cn_le l
    simp
    omega
theorem ba_qt_plain (x : ByteArray) (h : WP.plain (bl x) = true) : ba (WP.qt (bl x)) = x := by
  unfold WP.qt
  rw [if_pos h]
  exact ba_self x
theorem ba_qt_quote (x q : ByteArray) (h : WP.plain (bl x) = false) (hq : q = ⟨(WP.es x.data.toList).toArray⟩) : ba (WP.qt (bl x)) = ⟨#[34]⟩ ++ q ++ ⟨#[34]⟩ := by
  unfold WP.qt
  rw [if_neg (by simp [h]), hq]
  apply ByteArray.ext
  apply Array.toList_inj.1
  simp [ba, bl]
theorem jb_next {L : List ByteArray} {w W w1 : World} {i : Nat} {v v1 : Value} {x : ByteArray} {y : ByteArray} (h : JB L w W i v) (hx : L[i]? = some x) (hm : (bl x).all WP.may = true) (hy : y = ba (WP.qt (bl x)))
    (ho : w1.ownsRow w.heap.size 9 1 v1 (strs ((L.take i).map (fun s => WP.qt (bl s))) ++ [Value.string y]).length (strs ((L.take i).map (fun s => WP.qt (bl s))) ++ [Value.string y])) (hb : Below w.heap.size w w1) : JB L w w1 (i + 1) v1 := by
  have hl : i < L.length := by
    rcases Nat.lt_or_ge i L.length with h | h
    · exact h
    · rw [List.getElem?_eq_none h] at hx; cases hx
  have ht : L.take (i + 1) = L.take i ++ [x] := by
    rw [List.take_add_one, hx]; rfl
  refine ⟨?_, hb, ?_⟩
  · have e : strs ((L.take (i + 1)).map (fun s => WP.qt (bl s))) = strs ((L.take i).map (fun s => WP.qt (bl s))) ++ [Value.string y] := by rw [ht, hy]; simp [strs]
    rw [e]
    have el : (strs ((L.take i).map (fun s => WP.qt (bl s))) ++ [Value.string y]).length = i + 1 := by simp [strs]; omega
    rw [el] at ho
    exact ho
  · intro z hz
    rw [ht, List.mem_append] at hz
    rcases hz with hz | hz
    · exact h.may z hz
    · rw [List.mem_singleton.1 hz]; exact hm
theorem jb_len {L : List ByteArray} {i : Nat} (h : i ≤ L.length) : (strs ((L.take i).map (fun s => WP.qt (bl s)))).length = i := by simp [strs]; omega
theorem join_bad {L : List ByteArray} {i : Nat} {x : ByteArray} (h16 : L.length ≤ 16) (hx : L[i]? = some x) (hm : (bl x).all WP.may = false) : WP.join (L.map bl) = [] := by
  unfold WP.join
  rw [if_neg (by simp; omega), if_pos]
  rw [List.all_eq_false]
  exact ⟨bl x, List.mem_map.2 ⟨x, List.mem_iff_getElem?.2 ⟨i, hx⟩, rfl⟩, by simp [hm]⟩
theorem sep_len (l : List (List UInt8)) (h16 : l.length ≤ 16) (h : ∀ x ∈ l, x.length ≤ 2000) : (WP.sep (l.map WP.qt)).length ≤ 100000 := by
  have : ∀ l : List (List UInt8), (∀ x ∈ l, x.length ≤ 2000) → (WP.sep (l.map WP.qt)).length ≤ l.length * 4003 := by
    intro l
    induction l with
    | nil => intro _; simp [WP.sep]
    | cons a r ih =>
      intro h
      have h1 := qt_len a
      have h2 := h a (by simp)
      cases r with
      | nil => simp [WP.sep]; omega
      | cons b r =>
        have h3 := ih (fun x hx => h x (by simp [List.mem_cons] at hx ⊢; exact .inr hx))
        simp only [List.map_cons, WP.sep, List.length_append, List.length_cons] at h3 ⊢
        omega
  have := this l h
  omega
theorem join_sep (l : List (List UInt8)) : Lib.join (l.map (fun b => (ba b).data.toList)) [32] = WP.sep l := by
  induction l with
  | nil => rfl
  | cons a r ih =>
    cases r with
    | nil => simp [Lib.join, List.intercalate, WP.sep, ba]
    | cons b r =>
      have e : Lib.join ((a :: b :: r).map (fun b => (ba b).data.toList)) [32] = (ba a).data.toList ++ 32 :: Lib.join ((b :: r).map (fun b => (ba b).data.toList)) [32] := by simp [Lib.join, List.intercalate, List.intersperse]
      rw [e, ih]
      simp [WP.sep, ba]
theorem strs_form {W : World} {base n : Nat} {v : Value} {ws : List (List UInt8)} (h : W.ownsRow base 9 1 v n (strs ws)) (hn : 0 < n) :
    ∃ g cap, v = .slice (some ⟨g, 0, none⟩) n cap ∧ n ≤ cap ∧ (∀ (j : Nat) x, (ws.map ba)[j]? = some x → W.cell? ⟨g, j, none⟩ = some (.string x)) ∧ g < W.heap.size := by
  rcases h.2 with ⟨_, h0⟩ | ⟨g, cap, cur, rfl, hg, hh, hle, _⟩
  · have := h.1; rw [h0] at this; simp at this; omega
  refine ⟨g, cap, rfl, hle, fun j x hj => ?_, blk_lt hh⟩
  have := h.cells (g := g) rfl j (.string x) (by
    simp only [strs, List.getElem?_map] at hj ⊢
    cases hw : ws[j]? with
    | none => rw [hw] at hj; cases hj
    | some b => rw [hw] at hj; simp at hj ⊢; exact hj)
  rwa [add_plain] at this
theorem four_new (W : World) : Four (W.alloc (.cells #[.string ⟨#[92]⟩, .string ⟨#[92, 92]⟩, .string ⟨#[34]⟩, .string ⟨#[92, 34]⟩] 9)) W.heap.size := by
  have h := heap_alloc_new W (.cells #[.string ⟨#[92]⟩, .string ⟨#[92, 92]⟩, .string ⟨#[34]⟩, .string ⟨#[92, 34]⟩] 9)
  exact ⟨(blk_cell h 0).trans rfl, (blk_cell h 1).trans rfl, (blk_cell h 2).trans rfl, (blk_cell h 3).trans rfl⟩
set_option maxRecDepth 100000 in
set_option maxHeartbeats 8000000 in
theorem join_walk (bk off c : Nat) (L : List ByteArray) (w : World) (hL : 0 < L.length) (h16 : L.length ≤ 16) (hcells : ∀ (j : Nat) x, L[j]? = some x → w.cell? ⟨bk, off + j, none⟩ = some (.string x)) (hbk : bk < w.heap.size) (hsz : ∀ x ∈ L, x.size ≤ 2000) :
    Calls Tryd.prog 11 #[.slice (some ⟨bk, off, none⟩) L.length c] w fun e w' => e = .returned (.string (ba (WP.join (L.map bl)))) ∧ Below w.heap.size w w' := by
  have HC := Lib.hid hcells
  have HSZ := Lib.hid hsz
  clear hcells hsz
  go_enter Tryd.func11, Tryd.ntmps11
  go_wp2_with fail
  go_loopg [3, 13] L.length (fun g v3 v13 W2 => ∃ i : Nat, g = L.length - i ∧ i ≤ L.length ∧ v13 = .int .i64 i ∧ JB L w W2 i v3)
  case atStart => exact ⟨0, by omega, by omega, rfl, ⟨own_nil _ _ _ _, Below.refl _ _, by simp⟩⟩
  case round =>
    obtain ⟨i, hg, hi, rfl, hJ⟩ := hrel
    have HG := Lib.hid hg
    have HJ := Lib.hid hJ
    clear hg hJ
    by_cases hi2 : i < L.length
    · obtain ⟨x, hx⟩ : ∃ x, L[i]? = some x := ⟨_, List.getElem?_eq_getElem hi2⟩
      have hxs : x.size ≤ 2000 := HSZ.out x (List.mem_iff_getElem?.2 ⟨i, hx⟩)
      have hcx := (HJ.out.bel.cell (p := ⟨bk, off + i, none⟩) hbk).trans (HC.out i x hx)
      have HX := Lib.hid hx
      clear hx
      obtain ⟨wo, hwo⟩ : ∃ wo : World, wo = wr := ⟨_, rfl⟩
      subst hwo
      go_wp2_with fail
      go_loopg [19] x.size (fun g v19 W2 => wo = W2 ∧ ∃ k : Nat, g = x.size - k ∧ k ≤ x.size ∧ v19 = .int .i64 k ∧ ((bl x).take k).all WP.may = true)
      case atStart => exact ⟨rfl, 0, by omega, by omega, rfl, rfl⟩
      case round =>
        obtain ⟨rfl, k, hg2, hk, rfl, ham⟩ := hrel
        have HG2 := Lib.hid hg2
        have HA := Lib.hid ham
        clear hg2 ham
        by_cases hk2 : k < x.size
        · obtain ⟨b, hb⟩ : ∃ b, x[k]'hk2 = b := ⟨_, rfl⟩
          cases hm : WP.may b
          · have HY := cy b false hm
            have hall : (bl x).all WP.may = false := by
              rw [List.all_eq_false]
              exact ⟨b, by rw [← hb]; exact List.getElem_mem (l := x.data.toList) (by simpa using hk2), by simp [hm]⟩
            have HALL := Lib.hid hall
            clear hall hm
            go_wp2_with (go_at_call 17; refine (HY.out _).mono ?_; rintro e w1 ⟨rfl, rfl⟩)
            go_ret
            have hfin : Ending.returned (.string ⟨#[]⟩) = Ending.returned (.string (ba (WP.join (L.map bl)))) := by rw [join_bad h16 HX.out HALL.out]; rfl
            exact ⟨hfin, HJ.out.bel⟩
          · have HY := cy b true hm
            have hall : ((bl x).take (k + 1)).all WP.may = true := by
              unfold bl
              rw [take_snoc_b x k hk2, hb, List.all_append]
              have := HA.out
              unfold bl at this
              rw [this]
              simp [hm]
            have HALL := Lib.hid hall
            clear hall hm
            go_wp2_with (go_at_call 17; refine (HY.out _).mono ?_; rintro e w1 ⟨rfl, rfl⟩)
            go_roundg (x.size - (k + 1))
            case measure => have := HG2.out; omega
            case rel => exact ⟨rfl, k + 1, rfl, by omega, rfl, HALL.out⟩
        · have hall : (bl x).all WP.may = true := by
            have h := HA.out
            have : k = x.size := by omega
            subst this
            unfold bl at h ⊢
            rwa [take_all] at h
          have HALL := Lib.hid hall
          clear hall
          cases hp : WP.plain x.data.toList
          · have HP := Lib.hid (fun w => plain_call x hxs false hp w)
            have HPL := Lib.hid hp
            clear hp
            have hi16 : i ≤ 16 := by omega
            obtain ⟨q, hq⟩ : ∃ q : ByteArray, q = ⟨(WP.es x.data.toList).toArray⟩ := ⟨_, rfl⟩
            have hqs : q.size ≤ 4000 := by
              rw [hq]
              show (WP.es x.data.toList).toArray.size ≤ 4000
              have h1 := WP.es_len x.data.toList
              have h2 := WP.cn_le x.data.toList
              rw [List.size_toArray]
              have h3 : x.data.toList.length = x.size := by simp
              omega
            have HQ := Lib.hid hq
            clear hq
            go_wp2_with (first | (go_at_call 8; refine (HP.out _).mono ?_; rintro e w1 ⟨rfl, ⟨nd, rfl⟩⟩) |
              (go_at_call 19; (refine (new_repl _ wo.heap.size 4 (four_new (wo.drewN nd))).mono ?_; rintro e w1 ⟨R, g, c2, rfl, hR, hF, hne, hRs, hb1⟩; have HR := Lib.hid (And.intro hR (And.intro hF (And.intro hne (And.intro hRs hb1)))); clear hR hF hne hRs hb1)) |
              (go_at_call 20; (refine (repl_any w1 R g c2 HR.out.1 HR.out.2.1 HR.out.2.2.1 x hxs).mono ?_; rintro e w2 ⟨he, hb2⟩; rw [← HQ.out] at he; subst he; have HB2 := Lib.hid (HR.out.2.2.2.2.trans ((hb2 _ HR.out.2.2.2.1))); clear hb2; have HW2 : Hid (Below w.heap.size w w2) := Lib.hid (below_then ((pw_below_drewN HJ.out.bel nd).alloc HJ.out.bel.size _) (by have := HJ.out.bel.size; rw [show ∀ (X : World) o, (X.alloc o).heap.size = X.heap.size + 1 from fun X o => by simp]; exact Nat.le_succ_of_le this) HB2.out))) |
              (at_builtin; (refine print_append (w0 := _) w.heap.size rfl (.tmp 37) (.tmp 39) 22 9 (.string ByteArray.empty) 16 rfl Tryd.underlying22 info_str rfl (by decide) u3 (strs ((L.take i).map (fun s => WP.qt (bl s)))) _ rfl rfl rfl (by rw [jb_len hi]; exact pw_own_below ((pw_own_drewN HJ.out.own nd).alloc _) HB2.out) (Below.refl _ _) HW2.out.size (by rw [jb_len hi]; omega) ?_; intro v1 w3 hown hbel hgr hat; have HN := Lib.hid (jb_next HJ.out HX.out HALL.out (ba_qt_quote x q HPL.out HQ.out).symm hown (HW2.out.trans hbel)); clear hown hbel hgr hat)))
            go_roundg (L.length - (i + 1))
            case measure => have := HG.out; omega
            case rel => exact ⟨i + 1, rfl, by omega, rfl, HN.out⟩
          · have HP := Lib.hid (fun w => plain_call x hxs true hp w)
            have HPL := Lib.hid hp
            clear hp
            have hi16 : i ≤ 16 := by omega
            go_wp2_with (first | (go_at_call 8; refine (HP.out _).mono ?_; rintro e w1 ⟨rfl, ⟨nd, rfl⟩⟩) | (at_builtin; (refine print_append (w0 := _) w.heap.size rfl (.tmp 37) (.tmp 39) 22 9 (.string ByteArray.empty) 16 rfl Tryd.underlying22 info_str rfl (by decide) u3 (strs ((L.take i).map (fun s => WP.qt (bl s)))) (.string x) rfl rfl rfl (by rw [jb_len hi]; exact pw_own_drewN HJ.out.own nd) (Below.refl _ _) HJ.out.bel.size (by rw [jb_len hi]; omega) ?_; intro v1 w1 hown hbel hgr hat; have HN := Lib.hid (jb_next HJ.out HX.out HALL.out (ba_qt_plain x HPL.out).symm hown ((pw_below_drewN HJ.out.bel nd).trans hbel)); clear hown hbel hgr hat)))
            go_roundg (L.length - (i + 1))
            case measure => have := HG.out; omega
            case rel => exact ⟨i + 1, rfl, by omega, rfl, HN.out⟩
    · obtain rfl : i = L.length := by omega
      obtain ⟨hown, hbel, hmay⟩ := HJ.out
      rw [List.take_of_length_le (Nat.le_refl _)] at hown hmay
      obtain ⟨g, cap, hv, hcap, hcl, hgb⟩ := strs_form hown hL
      subst hv
      have hjl : (Lib.join (((L.map bl).map WP.qt).map (fun b => (ba b).data.toList)) [32]).length ≤ 140737488355328 := by
        rw [join_sep]
        exact Nat.le_trans (sep_len (L.map bl) (by simpa using h16) (fun x hx => by obtain ⟨y, hy, rfl⟩ := List.mem_map.1 hx; have := HSZ.out y hy; simpa [bl] using this)) (by decide)
      have CJ := Tryd.strings_Join g 0 cap (((L.map bl).map WP.qt).map ba) ⟨#[32]⟩ wr (fun j x hj => by rw [Nat.zero_add]; exact hcl j x (by simpa [List.map_map, Function.comp_def] using hj)) hgb (by simp; omega) (by simpa using hcap) (by rw [List.map_map]; exact hjl)
      rw [show ((List.map WP.qt (List.map bl L)).map ba).length = L.length by simp] at CJ
      rw [List.map_map, show (Lib.join (List.map ((fun x => x.data.toList) ∘ ba) (List.map WP.qt (List.map bl L))) (ByteArray.data ⟨#[32]⟩).toList) = WP.sep ((L.map bl).map WP.qt) from join_sep _] at CJ
      have hres : WP.join (L.map bl) = if 256 < (WP.sep ((L.map bl).map WP.qt)).length then [] else WP.sep ((L.map bl).map WP.qt) := by
        unfold WP.join
        rw [if_neg (by simpa using h16), if_neg]
        rw [Bool.not_eq_false, List.all_eq_true]
        intro x hx
        obtain ⟨y, hy, rfl⟩ := List.mem_map.1 hx
        exact hmay y hy
      have HRES := Lib.hid hres
      have HCJ := Lib.hid CJ
      have HBL := Lib.hid hbel
      clear hres CJ hbel hown hmay hcl hjl hcap
      generalize hsep : WP.sep ((L.map bl).map WP.qt) = sp at HCJ HRES
      have hsl : (⟨sp.toArray⟩ : ByteArray).size = sp.length := by show sp.toArray.size = _; rw [List.size_toArray]
      by_cases hbig : 256 < sp.length
      · have hq : (256 : Int) < (sp.length : Int) := by omega
        have hr := HRES.out
        rw [if_pos hbig] at hr
        have HR := Lib.hid hr
        clear hr hbig hsl hsep
        go_wp2_with (go_at_call 21; refine HCJ.out.mono ?_; rintro e w1 ⟨rfl, hb1⟩; have HB1 := Lib.hid hb1; clear hb1)
        go_ret
        have hfin : Ending.returned (.string ⟨#[]⟩) = Ending.returned (.string (ba (WP.join (L.map bl)))) := by rw [HR.out]; rfl
        exact ⟨hfin, below_then HBL.out HBL.out.size HB1.out⟩
      · have hq : ¬ (256 : Int) < (sp.length : Int) := by omega
        have hr := HRES.out
        rw [if_neg hbig] at hr
        have HR := Lib.hid hr
        clear hr hbig hsl hsep
        go_wp2_with (go_at_call 21; refine HCJ.out.mono ?_; rintro e w1 ⟨rfl, hb1⟩; have HB1 := Lib.hid hb1; clear hb1)
        go_ret
        have hfin : Ending.returned (.string ⟨sp.toArray⟩) = Ending.returned (.string (ba (WP.join (L.map bl)))) := by rw [HR.out]; rfl
        exact ⟨hfin, below_then HBL.out HBL.out.size HB1.out⟩
set_option maxRecDepth 100000 in
set_option maxHeartbeats 4000000 in
theorem join_many (A0 : Option Addr) (n c : Nat) (L : List ByteArray) (hn : L.length = n) (w : World) (h16 : 16 < n) :
    Calls Tryd.prog 11 #[.slice A0 n c] w fun e w' => e = .returned (.string (ba (WP.join (L.map bl)))) ∧ Below w.heap.size w w' := by
  have hr : WP.join (L.map bl) = [] := by unfold WP.join; rw [if_pos (by simp; omega)]
  have HR := Lib.hid hr
  have hq : (16 : Int) < (n : Int) := by omega
  clear hr hn h16
  go_enter Tryd.func11, Tryd.ntmps11
  go_wp2_with fail
  go_ret
  have hfin : Ending.returned (.string ⟨#[]⟩) = Ending.returned (.string (ba (WP.join (L.map bl)))) := by rw [HR.out]; rfl
  exact ⟨hfin, Below.refl _ _⟩
set_option maxRecDepth 100000 in
set_option maxHeartbeats 4000000 in
theorem join_empty (A0 : Option Addr) (c : Nat) (w : World) :
    Calls Tryd.prog 11 #[.slice A0 0 c] w fun e w' => e = .returned (.string (ba (WP.join []))) ∧ Below w.heap.size w w' := by
  have HJ := Lib.hid (fun w => Tryd.strings_Join_none none 0 ⟨#[32]⟩ w)
  go_enter Tryd.func11, Tryd.ntmps11
  go_wp2_with fail
  refine wp_loop_rounds 1 ?_
  rw [rounds_succ]
  go_wp2_with (go_at_call 21; refine (HJ.out _).mono ?_; rintro e w1 ⟨rfl, rfl⟩)
  go_ret
  exact ⟨rfl, Below.refl _ _⟩
def words_Join.f (l0 : List ByteArray) : Option ByteArray := if 16 < l0.length ∨ l0.all (fun x => decide (x.size ≤ 2000)) = true then some (ba (WP.join (l0.map bl))) else none
theorem words_Join.calls (A0 : Option Addr) (c0 : Nat) (l0 : List ByteArray) (r : ByteArray) (w : World) (hr0 : Kd.C Kd.string w A0 l0.length l0) (hc0 : l0.length ≤ c0) (h : words_Join.f l0 = some r) :
    Calls Tryd.prog 11 #[.slice A0 l0.length c0] w fun e w' => e = .returned (.string r) ∧ Below w.heap.size w w' := by
  unfold words_Join.f at h
  split at h
  · rename_i hs
    cases Option.some.inj h
    by_cases h16 : 16 < l0.length
    · exact join_many A0 l0.length c0 l0 rfl w h16
    replace hs := hs.resolve_left h16
    by_cases h0 : l0 = []
    · subst h0
      exact join_empty A0 c0 w
    have hl : 0 < l0.length := List.length_pos_iff.2 h0
    obtain ⟨ad, rfl, hcell⟩ := hr0.2.2 hl
    have hcells : ∀ (j : Nat) x, l0[j]? = some x → w.cell? (ad.add j) = some (.string x) := by
      intro j x hj
      obtain ⟨c, _, hK, hu⟩ := hcell j x hj
      have hK' : c = [Value.string x] := hK
      subst hK'
      have := hu 0 _ rfl
      have e : j * Kd.string.sz + 0 = j := by show j * 1 + 0 = j; omega
      rwa [e] at this
    have hz := hcells 0 _ (List.getElem?_eq_getElem hl)
    have hsp : ad.spot = none := by
      have : ad.add 0 = ad := by simp [Addr.add]
      rw [this] at hz
      unfold World.cell? at hz
      split at hz
      · split at hz
        · cases hz
        · rename_i h; simpa using h
      · cases hz
    have hbk : ad.block < w.heap.size := by
      have := World.block_lt_of_cell? _ _ hz
      simpa [Addr.add] using this
    have hadd : ∀ j, ad.add j = ⟨ad.block, ad.off + j, none⟩ := by
      intro j
      unfold Addr.add
      split
      · rename_i h; subst h; cases ad; simp at hsp; simp [hsp]
      · rfl
    have e : (some ad : Option Addr) = some ⟨ad.block, ad.off, none⟩ := by cases ad; simp at hsp; simp [hsp]
    rw [e]
    exact join_walk ad.block ad.off c0 l0 w hl (by omega) (fun j x hj => by rw [← hadd]; exact hcells j x hj) hbk (fun x hx => by have := List.all_eq_true.1 hs x hx; simpa using this)
  · cases h
end Go.Proofs.YtbfeokfninedcaaDoor.Ext
set_option linter.unusedVariables false
set_option linter.unusedSimpArgs false
namespace Go.Proofs.YtbfeokfninedcaaDoor.Ext
open Go.RowKit Go.Proofs.YtbfeokfninedcaaDoorW.PrintWords Go.Proofs.YtbfeokfninedcaaDoorW.PrintLast Go.Proofs.YtbfeokfninedcaaDoor.PWrdA
def nl : ByteArray := ⟨#[10]⟩
def linesB (s : ByteArray) : List ByteArray := Lib.splitB nl 0 (Lib.countB s nl) s
def strings_Split.f (a0 a1 : ByteArray) : Option (List ByteArray) := if a1 = ⟨#[10]⟩ ∧ a0.size < 4294967281 then some (linesB a0) else none
theorem split10_walk (s : ByteArray) (w : World) (hs : s.size < 4294967281) :
    Calls Tryd.prog 24 #[.string s, .string ⟨#[10]⟩] w fun e w' =>
      e = .returned (.slice (some ⟨w.heap.size, 0, none⟩) (linesB s).length (linesB s).length) ∧ w' = w.alloc (.cells ((linesB s).map Value.string).toArray 9) := by
  have h1 : 1 ≤ nl.size := by decide
  have hle := Lib.countB_le nl h1 s.size s (Nat.le_refl _)
  have hlen := Lib.splitB_all nl h1 0 _ s rfl
  have c := Any.strings_genSplit_core Tryd.lays221 (by kernel_rfl) s nl 0 (-1) (Lib.countB s nl + 1) w hs h1 (Nat.zero_le _)
    (fun x c hx => ((Tryd.strings_Index_one x 10 (w.alloc (.cells c 9))).mono fun e w' ⟨he, hw⟩ => ⟨by rw [he]; show _ = Ending.returned (Value.int .i64 (Lib.index x.data.toList [10])); rw [Lib.index_one], hw⟩))
    ((Tryd.strings_Count_one s 10 w).mono fun e w' ⟨he, hw⟩ => ⟨by rw [he]; show _ = Ending.returned (Value.int .i64 ((Lib.count s.data.toList [10] : Nat) : Int)); rw [Lib.count_one]; rfl, hw⟩)
    (by decide) (by decide) (by rw [if_pos (by decide)]; omega)
  rw [Nat.add_sub_cancel] at c
  have e2 : Lib.cellsOf (Lib.splitB nl 0 (Lib.countB s nl) s) (Lib.countB s nl + 1) = ((Lib.splitB nl 0 (Lib.countB s nl) s).map Value.string).toArray := by rw [← hlen]; exact Lib.cellsOf_full _
  rw [e2] at c
  have hp : (linesB s).length = Lib.countB s nl + 1 := hlen
  have C : Calls Tryd.prog 31 #[.string s, .string ⟨#[10]⟩, .int .i64 0, .int .i64 (-1)] w fun e w' => e = .returned (.slice (some ⟨w.heap.size, 0, none⟩) (linesB s).length (linesB s).length) ∧ w' = w.alloc (.cells ((linesB s).map Value.string).toArray 9) := by
    refine Calls.mono c fun e w' ⟨he, hw⟩ => ⟨?_, hw⟩
    rw [he, ← hp]
    rfl
  clear c e2 hlen hle hp h1
  go_enter Tryd.func24, Tryd.ntmps24
  go_wp2_with (go_at_call 31; refine C.mono ?_; rintro e w' ⟨rfl, hw⟩; rw [hw])
  go_ret
  exact ⟨rfl, rfl⟩
def trimB (s p : ByteArray) : ByteArray := ⟨(Lib.trimSuffix s.data.toList p.data.toList).toArray⟩
def strings_TrimSuffix.f (a0 a1 : ByteArray) : Option ByteArray := if a0.size ≤ 9223372036854775807 then some (trimB a0 a1) else none
def cr : ByteArray := ⟨#[13]⟩
def cutI (ls : List ByteArray) (i : Nat) : List ByteArray := (ls.take i).map (trimB · cr) ++ ls.drop i
theorem cutI_at (ls : List ByteArray) (i : Nat) (h : i < ls.length) : (cutI ls i)[i]? = some ls[i] := by
  unfold cutI
  rw [List.getElem?_append_right (by simp; omega)]
  simp [Nat.min_eq_left (Nat.le_of_lt h), h]
theorem cutI_set (ls : List ByteArray) (i : Nat) (h : i < ls.length) : (cutI ls i).set i (trimB ls[i] cr) = cutI ls (i + 1) := by
  unfold cutI
  rw [List.set_append_right _ _ (by simp; omega), List.take_succ_eq_append_getElem h, List.map_append, List.append_assoc]
  simp only [List.length_map, List.length_take, Nat.min_eq_left (Nat.le_of_lt h), Nat.sub_self]
  rw [List.drop_eq_getElem_cons h]
  rfl
theorem cutI_all (ls : List ByteArray) : cutI ls ls.length = ls.map (trimB · cr) := by simp [cutI]
def vstr (ls : List ByteArray) : List Value := ls.map Value.string
theorem trim_call (x : ByteArray) (hx : x.size ≤ 9223372036854775807) (w : World) : Calls Tryd.prog 25 #[.string x, .string ⟨#[13]⟩] w fun e w' => e = .returned (.string (trimB x cr)) ∧ w = w' :=
  (Tryd.strings_TrimSuffix x ⟨#[13]⟩ w hx).mono fun e w' h => ⟨h.1, h.2.symm⟩
def wordsLines (s : ByteArray) : List ByteArray := (linesB s).map (trimB · cr)
theorem linesB_size (s : ByteArray) : ∀ x ∈ linesB s, x.size ≤ s.size := by
  have : ∀ (k : Nat) (s : ByteArray), ∀ x ∈ Lib.splitB nl 0 k s, x.size ≤ s.size := by
    intro k
    induction k with
    | zero => intro s x hx; rw [Lib.splitB_zero, List.mem_singleton] at hx; rw [hx]; exact Nat.le_refl _
    | succ k ih =>
      intro s x hx
      by_cases hm : Lib.indexB s nl = -1
      · rw [Lib.splitB_miss _ _ _ _ hm, List.mem_singleton] at hx; rw [hx]; exact Nat.le_refl _
      · obtain ⟨j, hj⟩ : ∃ j : Nat, Lib.indexB s nl = j := ⟨(Lib.indexB s nl).toNat, by have := Lib.index_ge s.data.toList nl.data.toList; unfold Lib.indexB at hm ⊢; omega⟩
        rw [Lib.splitB_hit _ _ _ _ j hj, List.mem_cons] at hx
        rcases hx with hx | hx
        · rw [hx, ByteArray.size_extract]; omega
        · refine Nat.le_trans (ih _ x hx) ?_
          rw [ByteArray.size_extract]; omega
  exact this _ s
set_option maxRecDepth 100000 in
set_option maxHeartbeats 4000000 in
theorem lines_walk (s : ByteArray) (w : World) (hs : s.size < 4294967281) :
    Calls Tryd.prog 15 #[.string s] w fun e w' => e = .returned (.slice (some ⟨w.heap.size, 0, none⟩) (linesB s).length (linesB s).length) ∧
      w'.heap[w.heap.size]? = some (.cells (vstr (wordsLines s)).toArray 9 (0, 0)) ∧ Below w.heap.size w w' := by
  have HS := Lib.hid (split10_walk s w hs)
  have hall := linesB_size s
  have hlen : (linesB s).length ≤ 4294967281 := by
    have h1 : 1 ≤ nl.size := by decide
    have hle := Lib.countB_le nl h1 s.size s (Nat.le_refl _)
    have hlen : (linesB s).length = Lib.countB s nl + 1 := Lib.splitB_all nl h1 0 _ s rfl
    omega
  unfold wordsLines
  generalize hls : linesB s = ls at HS hall hlen
  clear hls
  have HALL := Lib.hid hall
  clear hall
  go_enter Tryd.func15, Tryd.ntmps15
  go_wp2_with (go_at_call 24; refine HS.out.mono ?_; rintro e w1 ⟨rfl, rfl⟩)
  go_loopg [10] ls.length (fun g v10 W2 => ∃ i : Nat, g = ls.length - i ∧ i ≤ ls.length ∧ v10 = .int .i64 i ∧ W2.heap[w.heap.size]? = some (.cells (vstr (cutI ls i)).toArray 9 (0, 0)) ∧ Below w.heap.size w W2)
  case atStart => exact ⟨0, by omega, by omega, rfl, by simpa [cutI, vstr] using heap_alloc_new w (.cells (ls.map Value.string).toArray 9), below_alloc (Below.refl _ _) _⟩
  case round =>
    obtain ⟨i, hg, hi, rfl, hh, hb⟩ := hrel
    have HG := Lib.hid hg
    have HB := Lib.hid hb
    clear hg hb
    by_cases hi2 : i < ls.length
    · obtain ⟨x, hx⟩ : ∃ x, ls[i] = x := ⟨_, rfl⟩
      have hxs : x.size ≤ 4294967281 := by
        have := HALL.out x (by rw [← hx]; exact List.getElem_mem hi2)
        omega
      have HT := Lib.hid (fun w => trim_call x (by omega) w)
      have c1 : wr.cell? ⟨w.heap.size, i, none⟩ = some (.string x) := by
        rw [blk_cell hh i, List.getElem?_toArray]
        unfold vstr
        rw [List.getElem?_map, cutI_at ls i hi2, hx]
        rfl
      have z1 := blk_frozen hh i
      have hn := blk_set hh i (.string (trimB x cr))
      rw [List.setIfInBounds_toArray, show (vstr (cutI ls i)).set i (.string (trimB x cr)) = vstr (cutI ls (i + 1)) by unfold vstr; rw [← cutI_set ls i hi2, hx, List.map_set]] at hn
      have HN := Lib.hid hn
      clear hn hh hx
      go_wp2_with (go_at_call 25; refine (HT.out _).mono ?_; rintro e w1 ⟨rfl, rfl⟩)
      go_roundg (ls.length - (i + 1))
      case measure => have := HG.out; omega
      case rel => exact ⟨i + 1, rfl, by omega, rfl, HN.out, HB.out.setCell (Nat.le_refl _) _⟩
    · obtain rfl : i = ls.length := by omega
      rw [cutI_all] at hh
      have HH := Lib.hid hh
      clear hh
      go_wp2_with fail
      go_ret
      exact ⟨rfl, HH.out, HB.out⟩
def words_Lines.f (a0 : ByteArray) : Option (List ByteArray) := if a0.size < 4294967281 then some (wordsLines a0) else none
theorem words_Lines.calls (a0 : ByteArray) (r : List ByteArray) (w : World) (h : words_Lines.f a0 = some r) :
    Calls Tryd.prog 15 #[.string a0] w fun e w' => ∃ v0_ : Value, e = .returned (v0_) ∧ Kd.R Kd.string 9 w' w.heap.size (fun _ => True) v0_ r ∧ Below w.heap.size w w' := by
  unfold words_Lines.f at h
  split at h
  · rename_i hs
    cases Option.some.inj h
    refine (lines_walk a0 w hs).mono ?_
    rintro e w' ⟨rfl, hh, hb⟩
    have hl : (wordsLines a0).length = (linesB a0).length := by simp [wordsLines]
    have hlen : (linesB a0).length ≤ 4294967281 := by
      have h1 : 1 ≤ nl.size := by decide
      have hle := Lib.countB_le nl h1 a0.size a0 (Nat.le_refl _)
      have hlen : (linesB a0).length = Lib.countB a0 nl + 1 := Lib.splitB_all nl h1 0 _ a0 rfl
      omega
    refine ⟨_, rfl, ⟨fun _ _ => trivial, vstr (wordsLines a0), ?_, reps_strsW _ _ _ _⟩, hb⟩
    rw [← hl]
    have hz1 : Kd.string.sz = 1 := rfl
    refine ⟨by rw [hz1]; simp [vstr], .inr ⟨w.heap.size, (wordsLines a0).length, (vstr (wordsLines a0)).toArray, rfl, Nat.le_refl _, hh, Nat.le_refl _, by simp [maxLen]; omega, by rw [hz1]; simp [vstr], by rw [hz1, Nat.mul_one]; exact List.take_of_length_le (by simp [vstr])⟩⟩
  · cases h
end Go.Proofs.YtbfeokfninedcaaDoor.Ext
namespace Go.Proofs.YtbfeokfninedcaaDoor.PWrdB
open Go.Proofs.YtbfeokfninedcaaDoor.Ext Go.Proofs.YtbfeokfninedcaaDoor.PWrdA Go.RowKit Go.Proofs.YtbfeokfninedcaaDoorW.PrintWords Go.Proofs.YtbfeokfninedcaaDoorW.PrintLast Go.Proofs.YtbfeokfninedcaaDoorW.PrintMore
attribute [local go_sem] max2_int min2_int max_two min_two max_three min_three max_four min_four   -- for this text's walks alone
set_option linter.unusedVariables false
set_option linter.unusedSimpArgs false
def errW : Option Int → Value
 | none => .nilIface
 | some c => .iface 0 (.int .i64 c)
theorem errW_none : errW none = .nilIface := rfl
theorem errW_some (c : Int) : errW (some c) = .iface 0 (.int .i64 c) := rfl
end Go.Proofs.YtbfeokfninedcaaDoor.PWrdB
namespace Go.Proofs.YtbfeokfninedcaaDoor.PWrdB
open Go.Proofs.YtbfeokfninedcaaDoor.Ext Go.Proofs.YtbfeokfninedcaaDoor.PWrdA Go.RowKit Go.Proofs.YtbfeokfninedcaaDoorW.PrintWords Go.Proofs.YtbfeokfninedcaaDoorW.PrintLast Go.Proofs.YtbfeokfninedcaaDoorW.PrintMore
attribute [local go_sem] max2_int min2_int max_two min_two max_three min_three max_four min_four   -- for this text's walks alone
set_option linter.unusedVariables false
set_option linter.unusedSimpArgs false
def chicanelaw15_alive.f (k : Nat)  : Option (Bool) := (words_Split.f (⟨#[97, 32, 34, 98, 32, 99, 34, 32, 35, 32, 100]⟩ : ByteArray)).bind fun bt101 => ((words_Split.f (⟨#[97, 34, 98]⟩ : ByteArray)).bind fun bt106 => ((chicaneref15_Same.f k bt101.1 (([(⟨#[97]⟩ : ByteArray), (⟨#[98, 32, 99]⟩ : ByteArray)] : List ByteArray))).bind fun t114 => (if t114 = true then (if bt101.2.1 = 11 then (if bt101.2.2 = 0 then (if bt106.2.1 = 1 then (if bt106.2.2 = 150 then ((words_Join.f bt101.1).bind fun t115 => (if t115.toList = ([97, 32, 34, 98, 32, 99, 34] : List UInt8) then ((words_Lines.f (⟨#[97, 10, 98]⟩ : ByteArray)).bind fun t116 => (if (t116.length : Int) = 2 then ((words_Plain.f k (⟨#[97]⟩ : ByteArray)).bind fun t119 => (some t119)) else (some false))) else (some false))) else (some false)) else (some false)) else (some false)) else (some false)) else (some false))))
theorem chicanelaw15_alive.mono : ∀ k, LeO (chicanelaw15_alive.f k ) (chicanelaw15_alive.f (k + 1) ) := by
 intro  k
 unfold chicanelaw15_alive.f
 repeat' first
   | (with_reducible exact chicaneref15_Same.mono _ _ _)
   | (with_reducible exact words_Plain.mono _ _)
   | (with_reducible exact LeO.refl _)
   | (with_reducible exact LeO.none _)
   | (with_reducible refine LeO.ite ?_ ?_)
   | (with_reducible refine LeO.bind ?_ (fun _ => ?_))
   | exact chicaneref15_Same.mono _ _ _
   | exact words_Plain.mono _ _
   | exact LeO.none _
   | refine LeO.ite ?_ ?_
   | refine LeO.bind ?_ (fun _ => ?_)
set_option maxHeartbeats 8000000 in
set_option maxRecDepth 100000 in
theorem chicanelaw15_alive.calls (k : Nat)  (r : Bool) (w : World) (h : chicanelaw15_alive.f k  = some r) :
  Calls Tryd.prog 10 #[] w fun e w' => e = .returned (.bool r) ∧ Below w.heap.size w w' := by
 have HB := Aside0.mk (Below.refl w.heap.size w)
 have H : ((words_Split.f (⟨#[97, 32, 34, 98, 32, 99, 34, 32, 35, 32, 100]⟩ : ByteArray)).bind fun bt101 => ((words_Split.f (⟨#[97, 34, 98]⟩ : ByteArray)).bind fun bt106 => ((chicaneref15_Same.f k bt101.1 (([(⟨#[97]⟩ : ByteArray), (⟨#[98, 32, 99]⟩ : ByteArray)] : List ByteArray))).bind fun t114 => (if t114 = true then (if bt101.2.1 = 11 then (if bt101.2.2 = 0 then (if bt106.2.1 = 1 then (if bt106.2.2 = 150 then ((words_Join.f bt101.1).bind fun t115 => (if t115.toList = ([97, 32, 34, 98, 32, 99, 34] : List UInt8) then ((words_Lines.f (⟨#[97, 10, 98]⟩ : ByteArray)).bind fun t116 => (if (t116.length : Int) = 2 then ((words_Plain.f k (⟨#[97]⟩ : ByteArray)).bind fun t119 => (some t119)) else (some false))) else (some false))) else (some false)) else (some false)) else (some false)) else (some false)) else (some false))))) = some r := h
 clear h
 replace H := Option.bind_eq_some_iff.mp H
 obtain ⟨⟨t101, t102, t103⟩, A10, H⟩ := H
 replace H : ((words_Split.f (⟨#[97, 34, 98]⟩ : ByteArray)).bind fun bt106 => ((chicaneref15_Same.f k t101 (([(⟨#[97]⟩ : ByteArray), (⟨#[98, 32, 99]⟩ : ByteArray)] : List ByteArray))).bind fun t114 => (if t114 = true then (if t102 = 11 then (if t103 = 0 then (if bt106.2.1 = 1 then (if bt106.2.2 = 150 then ((words_Join.f t101).bind fun t115 => (if t115.toList = ([97, 32, 34, 98, 32, 99, 34] : List UInt8) then ((words_Lines.f (⟨#[97, 10, 98]⟩ : ByteArray)).bind fun t116 => (if (t116.length : Int) = 2 then ((words_Plain.f k (⟨#[97]⟩ : ByteArray)).bind fun t119 => (some t119)) else (some false))) else (some false))) else (some false)) else (some false)) else (some false)) else (some false)) else (some false)))) = some r := H
 have A1 := Aside0.mk A10
 clear A10
 replace H := Option.bind_eq_some_iff.mp H
 obtain ⟨⟨t106, t107, t108⟩, A20, H⟩ := H
 replace H : ((chicaneref15_Same.f k t101 (([(⟨#[97]⟩ : ByteArray), (⟨#[98, 32, 99]⟩ : ByteArray)] : List ByteArray))).bind fun t114 => (if t114 = true then (if t102 = 11 then (if t103 = 0 then (if t107 = 1 then (if t108 = 150 then ((words_Join.f t101).bind fun t115 => (if t115.toList = ([97, 32, 34, 98, 32, 99, 34] : List UInt8) then ((words_Lines.f (⟨#[97, 10, 98]⟩ : ByteArray)).bind fun t116 => (if (t116.length : Int) = 2 then ((words_Plain.f k (⟨#[97]⟩ : ByteArray)).bind fun t119 => (some t119)) else (some false))) else (some false))) else (some false)) else (some false)) else (some false)) else (some false)) else (some false))) = some r := H
 have A2 := Aside0.mk A20
 clear A20
 obtain ⟨y111, hy111⟩ : ∃ y_ : List ByteArray, y_ = (([(⟨#[97]⟩ : ByteArray), (⟨#[98, 32, 99]⟩ : ByteArray)] : List ByteArray)) := ⟨_, rfl⟩
 replace H : ((chicaneref15_Same.f k t101 y111).bind fun t114 => (if t114 = true then (if t102 = 11 then (if t103 = 0 then (if t107 = 1 then (if t108 = 150 then ((words_Join.f t101).bind fun t115 => (if t115.toList = ([97, 32, 34, 98, 32, 99, 34] : List UInt8) then ((words_Lines.f (⟨#[97, 10, 98]⟩ : ByteArray)).bind fun t116 => (if (t116.length : Int) = 2 then ((words_Plain.f k (⟨#[97]⟩ : ByteArray)).bind fun t119 => (some t119)) else (some false))) else (some false))) else (some false)) else (some false)) else (some false)) else (some false)) else (some false))) = some r := by first | (rw [hy111]; with_reducible exact H) | (have H2_ := (Option.bind_some _ _).symm.trans H; rw [hy111]; with_reducible exact H2_) | (have H2_ := (Option.bind_some _ _).symm.trans H; with_reducible exact H2_) | with_reducible exact H | (rw [hy111]; exact H) | exact H
 have Ny111 := Aside0.mk hy111
 clear hy111
 replace H := Option.bind_eq_some_iff.mp H
 obtain ⟨t114, A30, H⟩ := H
 replace H : (if t114 = true then (if t102 = 11 then (if t103 = 0 then (if t107 = 1 then (if t108 = 150 then ((words_Join.f t101).bind fun t115 => (if t115.toList = ([97, 32, 34, 98, 32, 99, 34] : List UInt8) then ((words_Lines.f (⟨#[97, 10, 98]⟩ : ByteArray)).bind fun t116 => (if (t116.length : Int) = 2 then ((words_Plain.f k (⟨#[97]⟩ : ByteArray)).bind fun t119 => (some t119)) else (some false))) else (some false))) else (some false)) else (some false)) else (some false)) else (some false)) else (some false)) = some r := H
 have A3 := Aside0.mk A30
 clear A30
 by_cases c4 : t114 = true
 ·subst c4
  have H1 : (if t102 = 11 then (if t103 = 0 then (if t107 = 1 then (if t108 = 150 then ((words_Join.f t101).bind fun t115 => (if t115.toList = ([97, 32, 34, 98, 32, 99, 34] : List UInt8) then ((words_Lines.f (⟨#[97, 10, 98]⟩ : ByteArray)).bind fun t116 => (if (t116.length : Int) = 2 then ((words_Plain.f k (⟨#[97]⟩ : ByteArray)).bind fun t119 => (some t119)) else (some false))) else (some false))) else (some false)) else (some false)) else (some false)) else (some false)) = some r := by rw [if_pos rfl] at H; exact H
  clear H
  have H := H1
  clear H1
  by_cases c5 : t102 = 11
  ·rw [if_pos c5] at H
   have c5b0 : (t102 == 11) = true := beq_iff_eq.mpr c5
   have c5b1 : (t102 != 11) = false := bne_eq_false_iff_eq.mpr c5
   clear c5
   by_cases c6 : t103 = 0
   ·rw [if_pos c6] at H
    have c6b0 : (t103 == 0) = true := beq_iff_eq.mpr c6
    have c6b1 : (t103 != 0) = false := bne_eq_false_iff_eq.mpr c6
    clear c6
    by_cases c7 : t107 = 1
    ·rw [if_pos c7] at H
     have c7b0 : (t107 == 1) = true := beq_iff_eq.mpr c7
     have c7b1 : (t107 != 1) = false := bne_eq_false_iff_eq.mpr c7
     clear c7
     by_cases c8 : t108 = 150
     ·rw [if_pos c8] at H
      have c8b0 : (t108 == 150) = true := beq_iff_eq.mpr c8
      have c8b1 : (t108 != 150) = false := bne_eq_false_iff_eq.mpr c8
      clear c8
      replace H := Option.bind_eq_some_iff.mp H
      obtain ⟨t115, A90, H⟩ := H
      replace H : (if t115.toList = ([97, 32, 34, 98, 32, 99, 34] : List UInt8) then ((words_Lines.f (⟨#[97, 10, 98]⟩ : ByteArray)).bind fun t116 => (if (t116.length : Int) = 2 then ((words_Plain.f k (⟨#[97]⟩ : ByteArray)).bind fun t119 => (some t119)) else (some false))) else (some false)) = some r := H
      have A9 := Aside0.mk A90
      clear A90
      by_cases c10 : t115.toList = ([97, 32, 34, 98, 32, 99, 34] : List UInt8)
      ·rw [if_pos c10] at H
       have c10b0 : (t115.toList == ([97, 32, 34, 98, 32, 99, 34] : List UInt8)) = true := beq_iff_eq.mpr c10
       have c10b1 : (t115.toList != ([97, 32, 34, 98, 32, 99, 34] : List UInt8)) = false := bne_eq_false_iff_eq.mpr c10
       clear c10
       replace H := Option.bind_eq_some_iff.mp H
       obtain ⟨t116, A110, H⟩ := H
       replace H : (if (t116.length : Int) = 2 then ((words_Plain.f k (⟨#[97]⟩ : ByteArray)).bind fun t119 => (some t119)) else (some false)) = some r := H
       have A11 := Aside0.mk A110
       clear A110
       by_cases c12 : (t116.length : Int) = 2
       ·rw [if_pos c12] at H
        have c12b0 : ((t116.length : Int) == 2) = true := beq_iff_eq.mpr c12
        have c12b1 : ((t116.length : Int) != 2) = false := bne_eq_false_iff_eq.mpr c12
        clear c12
        replace H := Option.bind_eq_some_iff.mp H
        obtain ⟨t119, A130, H⟩ := H
        replace H : (some t119) = some r := H
        have A13 := Aside0.mk A130
        clear A130
        obtain rfl := Option.some.inj H
        go_enter Tryd.func10, Tryd.ntmps10
        go_wp2_with (first | ((with_reducible refine gate_callee (f := 13) rfl ?_); refine goesL_ (some 8) rfl rfl Tryd.func13 (by kernel_rfl) rfl #[.string (⟨#[97, 32, 34, 98, 32, 99, 34, 32, 35, 32, 100]⟩ : ByteArray)] rfl (by (try simp only [List.map_toArray, List.map_cons, List.map_nil]); first | done | rfl | (simp only [List.length_drop, List.length_take]; rfl)) ?_; (with_reducible refine (words_Split.calls (⟨#[97, 32, 34, 98, 32, 99, 34, 32, 35, 32, 100]⟩ : ByteArray) t101 t102 t103 _ A1.out).mono ?_); rintro e w14 ⟨v104, rfl, ho0, hb⟩; refine ⟨_, rfl, ?_⟩; have n0_ := Aside0.mk (Kd.R_lower ho0 (below_size (by repeat (first | (with_reducible first | exact HB.out | apply below_alloc | apply pw_below_drewN | apply below_drew1) | exact HB.out)))); have n1_ := Aside0.mk (below_step (by repeat (first | (with_reducible first | exact HB.out | apply below_alloc | apply pw_below_drewN | apply below_drew1) | exact HB.out)) hb); clear HB; have HO105 := n0_; have HB := n1_; clear n0_ n1_; (try clear hb); (try clear hb2); (try clear hk); (try clear hi); (try clear ho0)) | ((with_reducible refine gate_callee (f := 13) rfl ?_); refine goesL_ (some 13) rfl rfl Tryd.func13 (by kernel_rfl) rfl #[.string (⟨#[97, 34, 98]⟩ : ByteArray)] rfl (by (try simp only [List.map_toArray, List.map_cons, List.map_nil]); first | done | rfl | (simp only [List.length_drop, List.length_take]; rfl)) ?_; (with_reducible refine (words_Split.calls (⟨#[97, 34, 98]⟩ : ByteArray) t106 t107 t108 _ A2.out).mono ?_); rintro e w15 ⟨v109, rfl, ho0, hb⟩; refine ⟨_, rfl, ?_⟩; have n0_ := Aside0.mk (Kd.R_elder' (by (with_reducible repeat (first | apply Kd.R_alloc | apply Kd.R_drewN | apply Kd.R_drew)); exact HO105.out) (Kd.R_base ho0) hb); have n1_ := Aside0.mk (Kd.R_lower (Kd.R_new' ho0 (Kd.R_lt (by (with_reducible repeat (first | apply Kd.R_alloc | apply Kd.R_drewN | apply Kd.R_drew)); exact HO105.out))) (below_size (by repeat (first | (with_reducible first | exact HB.out | apply below_alloc | apply pw_below_drewN | apply below_drew1) | exact HB.out)))); have n2_ := Aside0.mk (below_step (by repeat (first | (with_reducible first | exact HB.out | apply below_alloc | apply pw_below_drewN | apply below_drew1) | exact HB.out)) hb); clear HO105; clear HB; have HO105 := n0_; have HO110 := n1_; have HB := n2_; clear n0_ n1_ n2_; (try clear hb); (try clear hb2); (try clear hk); (try clear hi); (try clear ho0)) | ((with_reducible refine gate_dst (N := 18) rfl ?_); (try (refine gate_guard (by rfl) ?_; dsimp only)); refine Kd.R_lit Kd.string _ 9 ?hg (N := 18) ?hd (xs := ([(⟨#[97]⟩ : ByteArray), (⟨#[98, 32, 99]⟩ : ByteArray)] : List ByteArray)) (inner := [.string (⟨#[97]⟩ : ByteArray), .string (⟨#[98, 32, 99]⟩ : ByteArray)]) (ok := fun _ => True) (okp := fun _ => True) ?hr ?hp (fun _ hk => hk) trivial (Below.refl _ _) (Nat.le_refl _) (by simp) ?_; (case hd => rfl); (case hg => rfl); (case hr => first | (go_simp; done) | (go_simp; rfl)); (case hp => exact (Reps.one (show Kd.M Kd.string _ _ _ (⟨#[97]⟩ : ByteArray) [.string (⟨#[97]⟩ : ByteArray)] from rfl) (Reps.one (show Kd.M Kd.string _ _ _ (⟨#[98, 32, 99]⟩ : ByteArray) [.string (⟨#[98, 32, 99]⟩ : ByteArray)] from rfl) (Reps.none _ _)))); intro v112 w16 ho17 hb hg_ hnew_; clear hg_ hnew_; (first | rw [← Ny111.out] at ho17 | (simp only [Int.reduceToNat] at ho17; rw [← Ny111.out] at ho17)); have n0_ := Aside0.mk (Kd.R_elder' (by (with_reducible repeat (first | apply Kd.R_alloc | apply Kd.R_drewN | apply Kd.R_drew)); exact HO105.out) (Kd.R_base ho17) hb); have n1_ := Aside0.mk (Kd.R_elder' (by (with_reducible repeat (first | apply Kd.R_alloc | apply Kd.R_drewN | apply Kd.R_drew)); exact HO110.out) (Kd.R_base ho17) hb); have n2_ := Aside0.mk (Kd.R_lower (Kd.R_new' (Kd.R_new' ho17 (Kd.R_lt (by (with_reducible repeat (first | apply Kd.R_alloc | apply Kd.R_drewN | apply Kd.R_drew)); exact HO105.out))) (Kd.R_lt (by (with_reducible repeat (first | apply Kd.R_alloc | apply Kd.R_drewN | apply Kd.R_drew)); exact HO110.out))) (below_size (by repeat (first | (with_reducible first | exact HB.out | apply below_alloc | apply pw_below_drewN | apply below_drew1) | exact HB.out)))); have n3_ := Aside0.mk (below_step (by repeat (first | (with_reducible first | exact HB.out | apply below_alloc | apply pw_below_drewN | apply below_drew1) | exact HB.out)) hb); clear HO105; clear HO110; clear HB; have HO105 := n0_; have HO110 := n1_; have HO113 := n2_; have HB := n3_; clear n0_ n1_ n2_ n3_; clear hb ho17; obtain ⟨Ao18, co18, eo18⟩ := Kd.R_slice HO105.out; subst eo18; obtain ⟨Ao19, co19, eo19⟩ := Kd.R_slice HO113.out; subst eo19) | ((with_reducible refine gate_callee (f := 14) rfl ?_); refine goesL_ (some 19) rfl rfl Tryd.func14 (by kernel_rfl) rfl #[.slice Ao18 t101.length co18, .slice Ao19 y111.length co19] rfl (by (try simp only [List.map_toArray, List.map_cons, List.map_nil]); first | done | rfl | (simp only [List.length_drop, List.length_take]; rfl)) ?_; (with_reducible refine (chicaneref15_Same.calls k _ _ t101 _ _ y111 true _ ?side1 ?side2 ?side3 ?side4 A3.out).mono ?_); (case side1 => repeat (first | exact (Kd.R_reads' HO105.out).2.2 | (with_reducible refine Kd.C_alloc ?_ _) | (with_reducible refine Kd.C_drewN ?_ _) | (with_reducible refine Kd.C_drew ?_))); (case side2 => exact (Kd.R_reads' HO105.out).2.1); (case side3 => repeat (first | exact (Kd.R_reads' HO113.out).2.2 | (with_reducible refine Kd.C_alloc ?_ _) | (with_reducible refine Kd.C_drewN ?_ _) | (with_reducible refine Kd.C_drew ?_))); (case side4 => exact (Kd.R_reads' HO113.out).2.1); rintro e w' ⟨rfl, ⟨nd, rfl⟩⟩; refine ⟨_, rfl, ?_⟩) | (go_at_call 11; (with_reducible refine (words_Join.calls _ _ t101 t115 _ ?side1 ?side2 A9.out).mono ?_); (case side1 => repeat (first | exact (Kd.R_reads' HO105.out).2.2 | (with_reducible refine Kd.C_alloc ?_ _) | (with_reducible refine Kd.C_drewN ?_ _) | (with_reducible refine Kd.C_drew ?_))); (case side2 => exact (Kd.R_reads' HO105.out).2.1); rintro e w20 ⟨rfl, hb⟩; have n0_ := Aside0.mk (Kd.R_below (by (with_reducible repeat (first | apply Kd.R_alloc | apply Kd.R_drewN | apply Kd.R_drew)); exact HO105.out) hb); have n1_ := Aside0.mk (Kd.R_below (by (with_reducible repeat (first | apply Kd.R_alloc | apply Kd.R_drewN | apply Kd.R_drew)); exact HO110.out) hb); have n2_ := Aside0.mk (Kd.R_below (by (with_reducible repeat (first | apply Kd.R_alloc | apply Kd.R_drewN | apply Kd.R_drew)); exact HO113.out) hb); have n3_ := Aside0.mk (below_step (by repeat (first | (with_reducible first | exact HB.out | apply below_alloc | apply pw_below_drewN | apply below_drew1) | exact HB.out)) hb); clear HO105; clear HO110; clear HO113; clear HB; have HO105 := n0_; have HO110 := n1_; have HO113 := n2_; have HB := n3_; clear n0_ n1_ n2_ n3_; (try clear hb); (try clear hb2); (try clear hk); (try clear hi)) | (go_at_call 15; (with_reducible refine (words_Lines.calls (⟨#[97, 10, 98]⟩ : ByteArray) t116 _ A11.out).mono ?_); rintro e w21 ⟨v117, rfl, ho0, hb⟩; have n0_ := Aside0.mk (Kd.R_elder' (by (with_reducible repeat (first | apply Kd.R_alloc | apply Kd.R_drewN | apply Kd.R_drew)); exact HO105.out) (Kd.R_base ho0) hb); have n1_ := Aside0.mk (Kd.R_elder' (by (with_reducible repeat (first | apply Kd.R_alloc | apply Kd.R_drewN | apply Kd.R_drew)); exact HO110.out) (Kd.R_base ho0) hb); have n2_ := Aside0.mk (Kd.R_elder' (by (with_reducible repeat (first | apply Kd.R_alloc | apply Kd.R_drewN | apply Kd.R_drew)); exact HO113.out) (Kd.R_base ho0) hb); have n3_ := Aside0.mk (Kd.R_lower (Kd.R_new' (Kd.R_new' (Kd.R_new' ho0 (Kd.R_lt (by (with_reducible repeat (first | apply Kd.R_alloc | apply Kd.R_drewN | apply Kd.R_drew)); exact HO105.out))) (Kd.R_lt (by (with_reducible repeat (first | apply Kd.R_alloc | apply Kd.R_drewN | apply Kd.R_drew)); exact HO110.out))) (Kd.R_lt (by (with_reducible repeat (first | apply Kd.R_alloc | apply Kd.R_drewN | apply Kd.R_drew)); exact HO113.out))) (below_size (by repeat (first | (with_reducible first | exact HB.out | apply below_alloc | apply pw_below_drewN | apply below_drew1) | exact HB.out)))); have n4_ := Aside0.mk (below_step (by repeat (first | (with_reducible first | exact HB.out | apply below_alloc | apply pw_below_drewN | apply below_drew1) | exact HB.out)) hb); clear HO105; clear HO110; clear HO113; clear HB; have HO105 := n0_; have HO110 := n1_; have HO113 := n2_; have HO118 := n3_; have HB := n4_; clear n0_ n1_ n2_ n3_ n4_; (try clear hb); (try clear hb2); (try clear hk); (try clear hi); (try clear ho0); obtain ⟨Ao22, co22, eo22⟩ := Kd.R_slice HO118.out; subst eo22) | (go_at_call 8; (with_reducible refine (words_Plain.calls k (⟨#[97]⟩ : ByteArray) t119 _ A13.out).mono ?_); rintro e w' ⟨rfl, ⟨nd, rfl⟩⟩))
        go_ret
        exact ⟨by first | rfl | (simp [errW_none, errW_some] <;> rfl) | (simp [*, errW_none, errW_some] <;> rfl), by repeat (first | (with_reducible first | exact HB.out | apply below_alloc | apply pw_below_drewN | apply below_drew1) | exact HB.out)⟩
       ·rw [if_neg c12] at H
        have c12b0 : ((t116.length : Int) == 2) = false := beq_eq_false_iff_ne.mpr c12
        have c12b1 : ((t116.length : Int) != 2) = true := bne_iff_ne.mpr c12
        obtain rfl := Option.some.inj H
        go_enter Tryd.func10, Tryd.ntmps10
        go_wp2_with (first | ((with_reducible refine gate_callee (f := 13) rfl ?_); refine goesL_ (some 8) rfl rfl Tryd.func13 (by kernel_rfl) rfl #[.string (⟨#[97, 32, 34, 98, 32, 99, 34, 32, 35, 32, 100]⟩ : ByteArray)] rfl (by (try simp only [List.map_toArray, List.map_cons, List.map_nil]); first | done | rfl | (simp only [List.length_drop, List.length_take]; rfl)) ?_; (with_reducible refine (words_Split.calls (⟨#[97, 32, 34, 98, 32, 99, 34, 32, 35, 32, 100]⟩ : ByteArray) t101 t102 t103 _ A1.out).mono ?_); rintro e w23 ⟨v104, rfl, ho0, hb⟩; refine ⟨_, rfl, ?_⟩; have n0_ := Aside0.mk (Kd.R_lower ho0 (below_size (by repeat (first | (with_reducible first | exact HB.out | apply below_alloc | apply pw_below_drewN | apply below_drew1) | exact HB.out)))); have n1_ := Aside0.mk (below_step (by repeat (first | (with_reducible first | exact HB.out | apply below_alloc | apply pw_below_drewN | apply below_drew1) | exact HB.out)) hb); clear HB; have HO105 := n0_; have HB := n1_; clear n0_ n1_; (try clear hb); (try clear hb2); (try clear hk); (try clear hi); (try clear ho0)) | ((with_reducible refine gate_callee (f := 13) rfl ?_); refine goesL_ (some 13) rfl rfl Tryd.func13 (by kernel_rfl) rfl #[.string (⟨#[97, 34, 98]⟩ : ByteArray)] rfl (by (try simp only [List.map_toArray, List.map_cons, List.map_nil]); first | done | rfl | (simp only [List.length_drop, List.length_take]; rfl)) ?_; (with_reducible refine (words_Split.calls (⟨#[97, 34, 98]⟩ : ByteArray) t106 t107 t108 _ A2.out).mono ?_); rintro e w24 ⟨v109, rfl, ho0, hb⟩; refine ⟨_, rfl, ?_⟩; have n0_ := Aside0.mk (Kd.R_elder' (by (with_reducible repeat (first | apply Kd.R_alloc | apply Kd.R_drewN | apply Kd.R_drew)); exact HO105.out) (Kd.R_base ho0) hb); have n1_ := Aside0.mk (Kd.R_lower (Kd.R_new' ho0 (Kd.R_lt (by (with_reducible repeat (first | apply Kd.R_alloc | apply Kd.R_drewN | apply Kd.R_drew)); exact HO105.out))) (below_size (by repeat (first | (with_reducible first | exact HB.out | apply below_alloc | apply pw_below_drewN | apply below_drew1) | exact HB.out)))); have n2_ := Aside0.mk (below_step (by repeat (first | (with_reducible first | exact HB.out | apply below_alloc | apply pw_below_drewN | apply below_drew1) | exact HB.out)) hb); clear HO105; clear HB; have HO105 := n0_; have HO110 := n1_; have HB := n2_; clear n0_ n1_ n2_; (try clear hb); (try clear hb2); (try clear hk); (try clear hi); (try clear ho0)) | ((with_reducible refine gate_dst (N := 18) rfl ?_); (try (refine gate_guard (by rfl) ?_; dsimp only)); refine Kd.R_lit Kd.string _ 9 ?hg (N := 18) ?hd (xs := ([(⟨#[97]⟩ : ByteArray), (⟨#[98, 32, 99]⟩ : ByteArray)] : List ByteArray)) (inner := [.string (⟨#[97]⟩ : ByteArray), .string (⟨#[98, 32, 99]⟩ : ByteArray)]) (ok := fun _ => True) (okp := fun _ => True) ?hr ?hp (fun _ hk => hk) trivial (Below.refl _ _) (Nat.le_refl _) (by simp) ?_; (case hd => rfl); (case hg => rfl); (case hr => first | (go_simp; done) | (go_simp; rfl)); (case hp => exact (Reps.one (show Kd.M Kd.string _ _ _ (⟨#[97]⟩ : ByteArray) [.string (⟨#[97]⟩ : ByteArray)] from rfl) (Reps.one (show Kd.M Kd.string _ _ _ (⟨#[98, 32, 99]⟩ : ByteArray) [.string (⟨#[98, 32, 99]⟩ : ByteArray)] from rfl) (Reps.none _ _)))); intro v112 w25 ho26 hb hg_ hnew_; clear hg_ hnew_; (first | rw [← Ny111.out] at ho26 | (simp only [Int.reduceToNat] at ho26; rw [← Ny111.out] at ho26)); have n0_ := Aside0.mk (Kd.R_elder' (by (with_reducible repeat (first | apply Kd.R_alloc | apply Kd.R_drewN | apply Kd.R_drew)); exact HO105.out) (Kd.R_base ho26) hb); have n1_ := Aside0.mk (Kd.R_elder' (by (with_reducible repeat (first | apply Kd.R_alloc | apply Kd.R_drewN | apply Kd.R_drew)); exact HO110.out) (Kd.R_base ho26) hb); have n2_ := Aside0.mk (Kd.R_lower (Kd.R_new' (Kd.R_new' ho26 (Kd.R_lt (by (with_reducible repeat (first | apply Kd.R_alloc | apply Kd.R_drewN | apply Kd.R_drew)); exact HO105.out))) (Kd.R_lt (by (with_reducible repeat (first | apply Kd.R_alloc | apply Kd.R_drewN | apply Kd.R_drew)); exact HO110.out))) (below_size (by repeat (first | (with_reducible first | exact HB.out | apply below_alloc | apply pw_below_drewN | apply below_drew1) | exact HB.out)))); have n3_ := Aside0.mk (below_step (by repeat (first | (with_reducible first | exact HB.out | apply below_alloc | apply pw_below_drewN | apply below_drew1) | exact HB.out)) hb); clear HO105; clear HO110; clear HB; have HO105 := n0_; have HO110 := n1_; have HO113 := n2_; have HB := n3_; clear n0_ n1_ n2_ n3_; clear hb ho26; obtain ⟨Ao27, co27, eo27⟩ := Kd.R_slice HO105.out; subst eo27; obtain ⟨Ao28, co28, eo28⟩ := Kd.R_slice HO113.out; subst eo28) | ((with_reducible refine gate_callee (f := 14) rfl ?_); refine goesL_ (some 19) rfl rfl Tryd.func14 (by kernel_rfl) rfl #[.slice Ao27 t101.length co27, .slice Ao28 y111.length co28] rfl (by (try simp only [List.map_toArray, List.map_cons, List.map_nil]); first | done | rfl | (simp only [List.length_drop, List.length_take]; rfl)) ?_; (with_reducible refine (chicaneref15_Same.calls k _ _ t101 _ _ y111 true _ ?side1 ?side2 ?side3 ?side4 A3.out).mono ?_); (case side1 => repeat (first | exact (Kd.R_reads' HO105.out).2.2 | (with_reducible refine Kd.C_alloc ?_ _) | (with_reducible refine Kd.C_drewN ?_ _) | (with_reducible refine Kd.C_drew ?_))); (case side2 => exact (Kd.R_reads' HO105.out).2.1); (case side3 => repeat (first | exact (Kd.R_reads' HO113.out).2.2 | (with_reducible refine Kd.C_alloc ?_ _) | (with_reducible refine Kd.C_drewN ?_ _) | (with_reducible refine Kd.C_drew ?_))); (case side4 => exact (Kd.R_reads' HO113.out).2.1); rintro e w' ⟨rfl, ⟨nd, rfl⟩⟩; refine ⟨_, rfl, ?_⟩) | (go_at_call 11; (with_reducible refine (words_Join.calls _ _ t101 t115 _ ?side1 ?side2 A9.out).mono ?_); (case side1 => repeat (first | exact (Kd.R_reads' HO105.out).2.2 | (with_reducible refine Kd.C_alloc ?_ _) | (with_reducible refine Kd.C_drewN ?_ _) | (with_reducible refine Kd.C_drew ?_))); (case side2 => exact (Kd.R_reads' HO105.out).2.1); rintro e w29 ⟨rfl, hb⟩; have n0_ := Aside0.mk (Kd.R_below (by (with_reducible repeat (first | apply Kd.R_alloc | apply Kd.R_drewN | apply Kd.R_drew)); exact HO105.out) hb); have n1_ := Aside0.mk (Kd.R_below (by (with_reducible repeat (first | apply Kd.R_alloc | apply Kd.R_drewN | apply Kd.R_drew)); exact HO110.out) hb); have n2_ := Aside0.mk (Kd.R_below (by (with_reducible repeat (first | apply Kd.R_alloc | apply Kd.R_drewN | apply Kd.R_drew)); exact HO113.out) hb); have n3_ := Aside0.mk (below_step (by repeat (first | (with_reducible first | exact HB.out | apply below_alloc | apply pw_below_drewN | apply below_drew1) | exact HB.out)) hb); clear HO105; clear HO110; clear HO113; clear HB; have HO105 := n0_; have HO110 := n1_; have HO113 := n2_; have HB := n3_; clear n0_ n1_ n2_ n3_; (try clear hb); (try clear hb2); (try clear hk); (try clear hi)) | (go_at_call 15; (with_reducible refine (words_Lines.calls (⟨#[97, 10, 98]⟩ : ByteArray) t116 _ A11.out).mono ?_); rintro e w30 ⟨v117, rfl, ho0, hb⟩; have n0_ := Aside0.mk (Kd.R_elder' (by (with_reducible repeat (first | apply Kd.R_alloc | apply Kd.R_drewN | apply Kd.R_drew)); exact HO105.out) (Kd.R_base ho0) hb); have n1_ := Aside0.mk (Kd.R_elder' (by (with_reducible repeat (first | apply Kd.R_alloc | apply Kd.R_drewN | apply Kd.R_drew)); exact HO110.out) (Kd.R_base ho0) hb); have n2_ := Aside0.mk (Kd.R_elder' (by (with_reducible repeat (first | apply Kd.R_alloc | apply Kd.R_drewN | apply Kd.R_drew)); exact HO113.out) (Kd.R_base ho0) hb); have n3_ := Aside0.mk (Kd.R_lower (Kd.R_new' (Kd.R_new' (Kd.R_new' ho0 (Kd.R_lt (by (with_reducible repeat (first | apply Kd.R_alloc | apply Kd.R_drewN | apply Kd.R_drew)); exact HO105.out))) (Kd.R_lt (by (with_reducible repeat (first | apply Kd.R_alloc | apply Kd.R_drewN | apply Kd.R_drew)); exact HO110.out))) (Kd.R_lt (by (with_reducible repeat (first | apply Kd.R_alloc | apply Kd.R_drewN | apply Kd.R_drew)); exact HO113.out))) (below_size (by repeat (first | (with_reducible first | exact HB.out | apply below_alloc | apply pw_below_drewN | apply below_drew1) | exact HB.out)))); have n4_ := Aside0.mk (below_step (by repeat (first | (with_reducible first | exact HB.out | apply below_alloc | apply pw_below_drewN | apply below_drew1) | exact HB.out)) hb); clear HO105; clear HO110; clear HO113; clear HB; have HO105 := n0_; have HO110 := n1_; have HO113 := n2_; have HO118 := n3_; have HB := n4_; clear n0_ n1_ n2_ n3_ n4_; (try clear hb); (try clear hb2); (try clear hk); (try clear hi); (try clear ho0); obtain ⟨Ao31, co31, eo31⟩ := Kd.R_slice HO118.out; subst eo31))
        go_ret
        exact ⟨by first | rfl | (simp [errW_none, errW_some] <;> rfl) | (simp [*, errW_none, errW_some] <;> rfl), by repeat (first | (with_reducible first | exact HB.out | apply below_alloc | apply pw_below_drewN | apply below_drew1) | exact HB.out)⟩
      ·rw [if_neg c10] at H
       have c10b0 : (t115.toList == ([97, 32, 34, 98, 32, 99, 34] : List UInt8)) = false := beq_eq_false_iff_ne.mpr c10
       have c10b1 : (t115.toList != ([97, 32, 34, 98, 32, 99, 34] : List UInt8)) = true := bne_iff_ne.mpr c10
       obtain rfl := Option.some.inj H
       go_enter Tryd.func10, Tryd.ntmps10
       go_wp2_with (first | ((with_reducible refine gate_callee (f := 13) rfl ?_); refine goesL_ (some 8) rfl rfl Tryd.func13 (by kernel_rfl) rfl #[.string (⟨#[97, 32, 34, 98, 32, 99, 34, 32, 35, 32, 100]⟩ : ByteArray)] rfl (by (try simp only [List.map_toArray, List.map_cons, List.map_nil]); first | done | rfl | (simp only [List.length_drop, List.length_take]; rfl)) ?_; (with_reducible refine (words_Split.calls (⟨#[97, 32, 34, 98, 32, 99, 34, 32, 35, 32, 100]⟩ : ByteArray) t101 t102 t103 _ A1.out).mono ?_); rintro e w32 ⟨v104, rfl, ho0, hb⟩; refine ⟨_, rfl, ?_⟩; have n0_ := Aside0.mk (Kd.R_lower ho0 (below_size (by repeat (first | (with_reducible first | exact HB.out | apply below_alloc | apply pw_below_drewN | apply below_drew1) | exact HB.out)))); have n1_ := Aside0.mk (below_step (by repeat (first | (with_reducible first | exact HB.out | apply below_alloc | apply pw_below_drewN | apply below_drew1) | exact HB.out)) hb); clear HB; have HO105 := n0_; have HB := n1_; clear n0_ n1_; (try clear hb); (try clear hb2); (try clear hk); (try clear hi); (try clear ho0)) | ((with_reducible refine gate_callee (f := 13) rfl ?_); refine goesL_ (some 13) rfl rfl Tryd.func13 (by kernel_rfl) rfl #[.string (⟨#[97, 34, 98]⟩ : ByteArray)] rfl (by (try simp only [List.map_toArray, List.map_cons, List.map_nil]); first | done | rfl | (simp only [List.length_drop, List.length_take]; rfl)) ?_; (with_reducible refine (words_Split.calls (⟨#[97, 34, 98]⟩ : ByteArray) t106 t107 t108 _ A2.out).mono ?_); rintro e w33 ⟨v109, rfl, ho0, hb⟩; refine ⟨_, rfl, ?_⟩; have n0_ := Aside0.mk (Kd.R_elder' (by (with_reducible repeat (first | apply Kd.R_alloc | apply Kd.R_drewN | apply Kd.R_drew)); exact HO105.out) (Kd.R_base ho0) hb); have n1_ := Aside0.mk (Kd.R_lower (Kd.R_new' ho0 (Kd.R_lt (by (with_reducible repeat (first | apply Kd.R_alloc | apply Kd.R_drewN | apply Kd.R_drew)); exact HO105.out))) (below_size (by repeat (first | (with_reducible first | exact HB.out | apply below_alloc | apply pw_below_drewN | apply below_drew1) | exact HB.out)))); have n2_ := Aside0.mk (below_step (by repeat (first | (with_reducible first | exact HB.out | apply below_alloc | apply pw_below_drewN | apply below_drew1) | exact HB.out)) hb); clear HO105; clear HB; have HO105 := n0_; have HO110 := n1_; have HB := n2_; clear n0_ n1_ n2_; (try clear hb); (try clear hb2); (try clear hk); (try clear hi); (try clear ho0)) | ((with_reducible refine gate_dst (N := 18) rfl ?_); (try (refine gate_guard (by rfl) ?_; dsimp only)); refine Kd.R_lit Kd.string _ 9 ?hg (N := 18) ?hd (xs := ([(⟨#[97]⟩ : ByteArray), (⟨#[98, 32, 99]⟩ : ByteArray)] : List ByteArray)) (inner := [.string (⟨#[97]⟩ : ByteArray), .string (⟨#[98, 32, 99]⟩ : ByteArray)]) (ok := fun _ => True) (okp := fun _ => True) ?hr ?hp (fun _ hk => hk) trivial (Below.refl _ _) (Nat.le_refl _) (by simp) ?_; (case hd => rfl); (case hg => rfl); (case hr => first | (go_simp; done) | (go_simp; rfl)); (case hp => exact (Reps.one (show Kd.M Kd.string _ _ _ (⟨#[97]⟩ : ByteArray) [.string (⟨#[97]⟩ : ByteArray)] from rfl) (Reps.one (show Kd.M Kd.string _ _ _ (⟨#[98, 32, 99]⟩ : ByteArray) [.string (⟨#[98, 32, 99]⟩ : ByteArray)] from rfl) (Reps.none _ _)))); intro v112 w34 ho35 hb hg_ hnew_; clear hg_ hnew_; (first | rw [← Ny111.out] at ho35 | (simp only [Int.reduceToNat] at ho35; rw [← Ny111.out] at ho35)); have n0_ := Aside0.mk (Kd.R_elder' (by (with_reducible repeat (first | apply Kd.R_alloc | apply Kd.R_drewN | apply Kd.R_drew)); exact HO105.out) (Kd.R_base ho35) hb); have n1_ := Aside0.mk (Kd.R_elder' (by (with_reducible repeat (first | apply Kd.R_alloc | apply Kd.R_drewN | apply Kd.R_drew)); exact HO110.out) (Kd.R_base ho35) hb); have n2_ := Aside0.mk (Kd.R_lower (Kd.R_new' (Kd.R_new' ho35 (Kd.R_lt (by (with_reducible repeat (first | apply Kd.R_alloc | apply Kd.R_drewN | apply Kd.R_drew)); exact HO105.out))) (Kd.R_lt (by (with_reducible repeat (first | apply Kd.R_alloc | apply Kd.R_drewN | apply Kd.R_drew)); exact HO110.out))) (below_size (by repeat (first | (with_reducible first | exact HB.out | apply below_alloc | apply pw_below_drewN | apply below_drew1) | exact HB.out)))); have n3_ := Aside0.mk (below_step (by repeat (first | (with_reducible first | exact HB.out | apply below_alloc | apply pw_below_drewN | apply below_drew1) | exact HB.out)) hb); clear HO105; clear HO110; clear HB; have HO105 := n0_; have HO110 := n1_; have HO113 := n2_; have HB := n3_; clear n0_ n1_ n2_ n3_; clear hb ho35; obtain ⟨Ao36, co36, eo36⟩ := Kd.R_slice HO105.out; subst eo36; obtain ⟨Ao37, co37, eo37⟩ := Kd.R_slice HO113.out; subst eo37) | ((with_reducible refine gate_callee (f := 14) rfl ?_); refine goesL_ (some 19) rfl rfl Tryd.func14 (by kernel_rfl) rfl #[.slice Ao36 t101.length co36, .slice Ao37 y111.length co37] rfl (by (try simp only [List.map_toArray, List.map_cons, List.map_nil]); first | done | rfl | (simp only [List.length_drop, List.length_take]; rfl)) ?_; (with_reducible refine (chicaneref15_Same.calls k _ _ t101 _ _ y111 true _ ?side1 ?side2 ?side3 ?side4 A3.out).mono ?_); (case side1 => repeat (first | exact (Kd.R_reads' HO105.out).2.2 | (with_reducible refine Kd.C_alloc ?_ _) | (with_reducible refine Kd.C_drewN ?_ _) | (with_reducible refine Kd.C_drew ?_))); (case side2 => exact (Kd.R_reads' HO105.out).2.1); (case side3 => repeat (first | exact (Kd.R_reads' HO113.out).2.2 | (with_reducible refine Kd.C_alloc ?_ _) | (with_reducible refine Kd.C_drewN ?_ _) | (with_reducible refine Kd.C_drew ?_))); (case side4 => exact (Kd.R_reads' HO113.out).2.1); rintro e w' ⟨rfl, ⟨nd, rfl⟩⟩; refine ⟨_, rfl, ?_⟩) | (go_at_call 11; (with_reducible refine (words_Join.calls _ _ t101 t115 _ ?side1 ?side2 A9.out).mono ?_); (case side1 => repeat (first | exact (Kd.R_reads' HO105.out).2.2 | (with_reducible refine Kd.C_alloc ?_ _) | (with_reducible refine Kd.C_drewN ?_ _) | (with_reducible refine Kd.C_drew ?_))); (case side2 => exact (Kd.R_reads' HO105.out).2.1); rintro e w38 ⟨rfl, hb⟩; have n0_ := Aside0.mk (Kd.R_below (by (with_reducible repeat (first | apply Kd.R_alloc | apply Kd.R_drewN | apply Kd.R_drew)); exact HO105.out) hb); have n1_ := Aside0.mk (Kd.R_below (by (with_reducible repeat (first | apply Kd.R_alloc | apply Kd.R_drewN | apply Kd.R_drew)); exact HO110.out) hb); have n2_ := Aside0.mk (Kd.R_below (by (with_reducible repeat (first | apply Kd.R_alloc | apply Kd.R_drewN | apply Kd.R_drew)); exact HO113.out) hb); have n3_ := Aside0.mk (below_step (by repeat (first | (with_reducible first | exact HB.out | apply below_alloc | apply pw_below_drewN | apply below_drew1) | exact HB.out)) hb); clear HO105; clear HO110; clear HO113; clear HB; have HO105 := n0_; have HO110 := n1_; have HO113 := n2_; have HB := n3_; clear n0_ n1_ n2_ n3_; (try clear hb); (try clear hb2); (try clear hk); (try clear hi)))
       go_ret
       exact ⟨by first | rfl | (simp [errW_none, errW_some] <;> rfl) | (simp [*, errW_none, errW_some] <;> rfl), by repeat (first | (with_reducible first | exact HB.out | apply below_alloc | apply pw_below_drewN | apply below_drew1) | exact HB.out)⟩
     ·rw [if_neg c8] at H
      have c8b0 : (t108 == 150) = false := beq_eq_false_iff_ne.mpr c8
      have c8b1 : (t108 != 150) = true := bne_iff_ne.mpr c8
      obtain rfl := Option.some.inj H
      go_enter Tryd.func10, Tryd.ntmps10
      go_wp2_with (first | ((with_reducible refine gate_callee (f := 13) rfl ?_); refine goesL_ (some 8) rfl rfl Tryd.func13 (by kernel_rfl) rfl #[.string (⟨#[97, 32, 34, 98, 32, 99, 34, 32, 35, 32, 100]⟩ : ByteArray)] rfl (by (try simp only [List.map_toArray, List.map_cons, List.map_nil]); first | done | rfl | (simp only [List.length_drop, List.length_take]; rfl)) ?_; (with_reducible refine (words_Split.calls (⟨#[97, 32, 34, 98, 32, 99, 34, 32, 35, 32, 100]⟩ : ByteArray) t101 t102 t103 _ A1.out).mono ?_); rintro e w39 ⟨v104, rfl, ho0, hb⟩; refine ⟨_, rfl, ?_⟩; have n0_ := Aside0.mk (Kd.R_lower ho0 (below_size (by repeat (first | (with_reducible first | exact HB.out | apply below_alloc | apply pw_below_drewN | apply below_drew1) | exact HB.out)))); have n1_ := Aside0.mk (below_step (by repeat (first | (with_reducible first | exact HB.out | apply below_alloc | apply pw_below_drewN | apply below_drew1) | exact HB.out)) hb); clear HB; have HO105 := n0_; have HB := n1_; clear n0_ n1_; (try clear hb); (try clear hb2); (try clear hk); (try clear hi); (try clear ho0)) | ((with_reducible refine gate_callee (f := 13) rfl ?_); refine goesL_ (some 13) rfl rfl Tryd.func13 (by kernel_rfl) rfl #[.string (⟨#[97, 34, 98]⟩ : ByteArray)] rfl (by (try simp only [List.map_toArray, List.map_cons, List.map_nil]); first | done | rfl | (simp only [List.length_drop, List.length_take]; rfl)) ?_; (with_reducible refine (words_Split.calls (⟨#[97, 34, 98]⟩ : ByteArray) t106 t107 t108 _ A2.out).mono ?_); rintro e w40 ⟨v109, rfl, ho0, hb⟩; refine ⟨_, rfl, ?_⟩; have n0_ := Aside0.mk (Kd.R_elder' (by (with_reducible repeat (first | apply Kd.R_alloc | apply Kd.R_drewN | apply Kd.R_drew)); exact HO105.out) (Kd.R_base ho0) hb); have n1_ := Aside0.mk (Kd.R_lower (Kd.R_new' ho0 (Kd.R_lt (by (with_reducible repeat (first | apply Kd.R_alloc | apply Kd.R_drewN | apply Kd.R_drew)); exact HO105.out))) (below_size (by repeat (first | (with_reducible first | exact HB.out | apply below_alloc | apply pw_below_drewN | apply below_drew1) | exact HB.out)))); have n2_ := Aside0.mk (below_step (by repeat (first | (with_reducible first | exact HB.out | apply below_alloc | apply pw_below_drewN | apply below_drew1) | exact HB.out)) hb); clear HO105; clear HB; have HO105 := n0_; have HO110 := n1_; have HB := n2_; clear n0_ n1_ n2_; (try clear hb); (try clear hb2); (try clear hk); (try clear hi); (try clear ho0)) | ((with_reducible refine gate_dst (N := 18) rfl ?_); (try (refine gate_guard (by rfl) ?_; dsimp only)); refine Kd.R_lit Kd.string _ 9 ?hg (N := 18) ?hd (xs := ([(⟨#[97]⟩ : ByteArray), (⟨#[98, 32, 99]⟩ : ByteArray)] : List ByteArray)) (inner := [.string (⟨#[97]⟩ : ByteArray), .string (⟨#[98, 32, 99]⟩ : ByteArray)]) (ok := fun _ => True) (okp := fun _ => True) ?hr ?hp (fun _ hk => hk) trivial (Below.refl _ _) (Nat.le_refl _) (by simp) ?_; (case hd => rfl); (case hg => rfl); (case hr => first | (go_simp; done) | (go_simp; rfl)); (case hp => exact (Reps.one (show Kd.M Kd.string _ _ _ (⟨#[97]⟩ : ByteArray) [.string (⟨#[97]⟩ : ByteArray)] from rfl) (Reps.one (show Kd.M Kd.string _ _ _ (⟨#[98, 32, 99]⟩ : ByteArray) [.string (⟨#[98, 32, 99]⟩ : ByteArray)] from rfl) (Reps.none _ _)))); intro v112 w41 ho42 hb hg_ hnew_; clear hg_ hnew_; (first | rw [← Ny111.out] at ho42 | (simp only [Int.reduceToNat] at ho42; rw [← Ny111.out] at ho42)); have n0_ := Aside0.mk (Kd.R_elder' (by (with_reducible repeat (first | apply Kd.R_alloc | apply Kd.R_drewN | apply Kd.R_drew)); exact HO105.out) (Kd.R_base ho42) hb); have n1_ := Aside0.mk (Kd.R_elder' (by (with_reducible repeat (first | apply Kd.R_alloc | apply Kd.R_drewN | apply Kd.R_drew)); exact HO110.out) (Kd.R_base ho42) hb); have n2_ := Aside0.mk (Kd.R_lower (Kd.R_new' (Kd.R_new' ho42 (Kd.R_lt (by (with_reducible repeat (first | apply Kd.R_alloc | apply Kd.R_drewN | apply Kd.R_drew)); exact HO105.out))) (Kd.R_lt (by (with_reducible repeat (first | apply Kd.R_alloc | apply Kd.R_drewN | apply Kd.R_drew)); exact HO110.out))) (below_size (by repeat (first | (with_reducible first | exact HB.out | apply below_alloc | apply pw_below_drewN | apply below_drew1) | exact HB.out)))); have n3_ := Aside0.mk (below_step (by repeat (first | (with_reducible first | exact HB.out | apply below_alloc | apply pw_below_drewN | apply below_drew1) | exact HB.out)) hb); clear HO105; clear HO110; clear HB; have HO105 := n0_; have HO110 := n1_; have HO113 := n2_; have HB := n3_; clear n0_ n1_ n2_ n3_; clear hb ho42; obtain ⟨Ao43, co43, eo43⟩ := Kd.R_slice HO105.out; subst eo43; obtain ⟨Ao44, co44, eo44⟩ := Kd.R_slice HO113.out; subst eo44) | ((with_reducible refine gate_callee (f := 14) rfl ?_); refine goesL_ (some 19) rfl rfl Tryd.func14 (by kernel_rfl) rfl #[.slice Ao43 t101.length co43, .slice Ao44 y111.length co44] rfl (by (try simp only [List.map_toArray, List.map_cons, List.map_nil]); first | done | rfl | (simp only [List.length_drop, List.length_take]; rfl)) ?_; (with_reducible refine (chicaneref15_Same.calls k _ _ t101 _ _ y111 true _ ?side1 ?side2 ?side3 ?side4 A3.out).mono ?_); (case side1 => repeat (first | exact (Kd.R_reads' HO105.out).2.2 | (with_reducible refine Kd.C_alloc ?_ _) | (with_reducible refine Kd.C_drewN ?_ _) | (with_reducible refine Kd.C_drew ?_))); (case side2 => exact (Kd.R_reads' HO105.out).2.1); (case side3 => repeat (first | exact (Kd.R_reads' HO113.out).2.2 | (with_reducible refine Kd.C_alloc ?_ _) | (with_reducible refine Kd.C_drewN ?_ _) | (with_reducible refine Kd.C_drew ?_))); (case side4 => exact (Kd.R_reads' HO113.out).2.1); rintro e w' ⟨rfl, ⟨nd, rfl⟩⟩; refine ⟨_, rfl, ?_⟩))
      go_ret
      exact ⟨by first | rfl | (simp [errW_none, errW_some] <;> rfl) | (simp [*, errW_none, errW_some] <;> rfl), by repeat (first | (with_reducible first | exact HB.out | apply below_alloc | apply pw_below_drewN | apply below_drew1) | exact HB.out)⟩
    ·rw [if_neg c7] at H
     have c7b0 : (t107 == 1) = false := beq_eq_false_iff_ne.mpr c7
     have c7b1 : (t107 != 1) = true := bne_iff_ne.mpr c7
     obtain rfl := Option.some.inj H
     go_enter Tryd.func10, Tryd.ntmps10
     go_wp2_with (first | ((with_reducible refine gate_callee (f := 13) rfl ?_); refine goesL_ (some 8) rfl rfl Tryd.func13 (by kernel_rfl) rfl #[.string (⟨#[97, 32, 34, 98, 32, 99, 34, 32, 35, 32, 100]⟩ : ByteArray)] rfl (by (try simp only [List.map_toArray, List.map_cons, List.map_nil]); first | done | rfl | (simp only [List.length_drop, List.length_take]; rfl)) ?_; (with_reducible refine (words_Split.calls (⟨#[97, 32, 34, 98, 32, 99, 34, 32, 35, 32, 100]⟩ : ByteArray) t101 t102 t103 _ A1.out).mono ?_); rintro e w45 ⟨v104, rfl, ho0, hb⟩; refine ⟨_, rfl, ?_⟩; have n0_ := Aside0.mk (Kd.R_lower ho0 (below_size (by repeat (first | (with_reducible first | exact HB.out | apply below_alloc | apply pw_below_drewN | apply below_drew1) | exact HB.out)))); have n1_ := Aside0.mk (below_step (by repeat (first | (with_reducible first | exact HB.out | apply below_alloc | apply pw_below_drewN | apply below_drew1) | exact HB.out)) hb); clear HB; have HO105 := n0_; have HB := n1_; clear n0_ n1_; (try clear hb); (try clear hb2); (try clear hk); (try clear hi); (try clear ho0)) | ((with_reducible refine gate_callee (f := 13) rfl ?_); refine goesL_ (some 13) rfl rfl Tryd.func13 (by kernel_rfl) rfl #[.string (⟨#[97, 34, 98]⟩ : ByteArray)] rfl (by (try simp only [List.map_toArray, List.map_cons, List.map_nil]); first | done | rfl | (simp only [List.length_drop, List.length_take]; rfl)) ?_; (with_reducible refine (words_Split.calls (⟨#[97, 34, 98]⟩ : ByteArray) t106 t107 t108 _ A2.out).mono ?_); rintro e w46 ⟨v109, rfl, ho0, hb⟩; refine ⟨_, rfl, ?_⟩; have n0_ := Aside0.mk (Kd.R_elder' (by (with_reducible repeat (first | apply Kd.R_alloc | apply Kd.R_drewN | apply Kd.R_drew)); exact HO105.out) (Kd.R_base ho0) hb); have n1_ := Aside0.mk (Kd.R_lower (Kd.R_new' ho0 (Kd.R_lt (by (with_reducible repeat (first | apply Kd.R_alloc | apply Kd.R_drewN | apply Kd.R_drew)); exact HO105.out))) (below_size (by repeat (first | (with_reducible first | exact HB.out | apply below_alloc | apply pw_below_drewN | apply below_drew1) | exact HB.out)))); have n2_ := Aside0.mk (below_step (by repeat (first | (with_reducible first | exact HB.out | apply below_alloc | apply pw_below_drewN | apply below_drew1) | exact HB.out)) hb); clear HO105; clear HB; have HO105 := n0_; have HO110 := n1_; have HB := n2_; clear n0_ n1_ n2_; (try clear hb); (try clear hb2); (try clear hk); (try clear hi); (try clear ho0)) | ((with_reducible refine gate_dst (N := 18) rfl ?_); (try (refine gate_guard (by rfl) ?_; dsimp only)); refine Kd.R_lit Kd.string _ 9 ?hg (N := 18) ?hd (xs := ([(⟨#[97]⟩ : ByteArray), (⟨#[98, 32, 99]⟩ : ByteArray)] : List ByteArray)) (inner := [.string (⟨#[97]⟩ : ByteArray), .string (⟨#[98, 32, 99]⟩ : ByteArray)]) (ok := fun _ => True) (okp := fun _ => True) ?hr ?hp (fun _ hk => hk) trivial (Below.refl _ _) (Nat.le_refl _) (by simp) ?_; (case hd => rfl); (case hg => rfl); (case hr => first | (go_simp; done) | (go_simp; rfl)); (case hp => exact (Reps.one (show Kd.M Kd.string _ _ _ (⟨#[97]⟩ : ByteArray) [.string (⟨#[97]⟩ : ByteArray)] from rfl) (Reps.one (show Kd.M Kd.string _ _ _ (⟨#[98, 32, 99]⟩ : ByteArray) [.string (⟨#[98, 32, 99]⟩ : ByteArray)] from rfl) (Reps.none _ _)))); intro v112 w47 ho48 hb hg_ hnew_; clear hg_ hnew_; (first | rw [← Ny111.out] at ho48 | (simp only [Int.reduceToNat] at ho48; rw [← Ny111.out] at ho48)); have n0_ := Aside0.mk (Kd.R_elder' (by (with_reducible repeat (first | apply Kd.R_alloc | apply Kd.R_drewN | apply Kd.R_drew)); exact HO105.out) (Kd.R_base ho48) hb); have n1_ := Aside0.mk (Kd.R_elder' (by (with_reducible repeat (first | apply Kd.R_alloc | apply Kd.R_drewN | apply Kd.R_drew)); exact HO110.out) (Kd.R_base ho48) hb); have n2_ := Aside0.mk (Kd.R_lower (Kd.R_new' (Kd.R_new' ho48 (Kd.R_lt (by (with_reducible repeat (first | apply Kd.R_alloc | apply Kd.R_drewN | apply Kd.R_drew)); exact HO105.out))) (Kd.R_lt (by (with_reducible repeat (first | apply Kd.R_alloc | apply Kd.R_drewN | apply Kd.R_drew)); exact HO110.out))) (below_size (by repeat (first | (with_reducible first | exact HB.out | apply below_alloc | apply pw_below_drewN | apply below_drew1) | exact HB.out)))); have n3_ := Aside0.mk (below_step (by repeat (first | (with_reducible first | exact HB.out | apply below_alloc | apply pw_below_drewN | apply below_drew1) | exact HB.out)) hb); clear HO105; clear HO110; clear HB; have HO105 := n0_; have HO110 := n1_; have HO113 := n2_; have HB := n3_; clear n0_ n1_ n2_ n3_; clear hb ho48; obtain ⟨Ao49, co49, eo49⟩ := Kd.R_slice HO105.out; subst eo49; obtain ⟨Ao50, co50, eo50⟩ := Kd.R_slice HO113.out; subst eo50) | ((with_reducible refine gate_callee (f := 14) rfl ?_); refine goesL_ (some 19) rfl rfl Tryd.func14 (by kernel_rfl) rfl #[.slice Ao49 t101.length co49, .slice Ao50 y111.length co50] rfl (by (try simp only [List.map_toArray, List.map_cons, List.map_nil]); first | done | rfl | (simp only [List.length_drop, List.length_take]; rfl)) ?_; (with_reducible refine (chicaneref15_Same.calls k _ _ t101 _ _ y111 true _ ?side1 ?side2 ?side3 ?side4 A3.out).mono ?_); (case side1 => repeat (first | exact (Kd.R_reads' HO105.out).2.2 | (with_reducible refine Kd.C_alloc ?_ _) | (with_reducible refine Kd.C_drewN ?_ _) | (with_reducible refine Kd.C_drew ?_))); (case side2 => exact (Kd.R_reads' HO105.out).2.1); (case side3 => repeat (first | exact (Kd.R_reads' HO113.out).2.2 | (with_reducible refine Kd.C_alloc ?_ _) | (with_reducible refine Kd.C_drewN ?_ _) | (with_reducible refine Kd.C_drew ?_))); (case side4 => exact (Kd.R_reads' HO113.out).2.1); rintro e w' ⟨rfl, ⟨nd, rfl⟩⟩; refine ⟨_, rfl, ?_⟩))
     go_ret
     exact ⟨by first | rfl | (simp [errW_none, errW_some] <;> rfl) | (simp [*, errW_none, errW_some] <;> rfl), by repeat (first | (with_reducible first | exact HB.out | apply below_alloc | apply pw_below_drewN | apply below_drew1) | exact HB.out)⟩
   ·rw [if_neg c6] at H
    have c6b0 : (t103 == 0) = false := beq_eq_false_iff_ne.mpr c6
    have c6b1 : (t103 != 0) = true := bne_iff_ne.mpr c6
    obtain rfl := Option.some.inj H
    go_enter Tryd.func10, Tryd.ntmps10
    go_wp2_with (first | ((with_reducible refine gate_callee (f := 13) rfl ?_); refine goesL_ (some 8) rfl rfl Tryd.func13 (by kernel_rfl) rfl #[.string (⟨#[97, 32, 34, 98, 32, 99, 34, 32, 35, 32, 100]⟩ : ByteArray)] rfl (by (try simp only [List.map_toArray, List.map_cons, List.map_nil]); first | done | rfl | (simp only [List.length_drop, List.length_take]; rfl)) ?_; (with_reducible refine (words_Split.calls (⟨#[97, 32, 34, 98, 32, 99, 34, 32, 35, 32, 100]⟩ : ByteArray) t101 t102 t103 _ A1.out).mono ?_); rintro e w51 ⟨v104, rfl, ho0, hb⟩; refine ⟨_, rfl, ?_⟩; have n0_ := Aside0.mk (Kd.R_lower ho0 (below_size (by repeat (first | (with_reducible first | exact HB.out | apply below_alloc | apply pw_below_drewN | apply below_drew1) | exact HB.out)))); have n1_ := Aside0.mk (below_step (by repeat (first | (with_reducible first | exact HB.out | apply below_alloc | apply pw_below_drewN | apply below_drew1) | exact HB.out)) hb); clear HB; have HO105 := n0_; have HB := n1_; clear n0_ n1_; (try clear hb); (try clear hb2); (try clear hk); (try clear hi); (try clear ho0)) | ((with_reducible refine gate_callee (f := 13) rfl ?_); refine goesL_ (some 13) rfl rfl Tryd.func13 (by kernel_rfl) rfl #[.string (⟨#[97, 34, 98]⟩ : ByteArray)] rfl (by (try simp only [List.map_toArray, List.map_cons, List.map_nil]); first | done | rfl | (simp only [List.length_drop, List.length_take]; rfl)) ?_; (with_reducible refine (words_Split.calls (⟨#[97, 34, 98]⟩ : ByteArray) t106 t107 t108 _ A2.out).mono ?_); rintro e w52 ⟨v109, rfl, ho0, hb⟩; refine ⟨_, rfl, ?_⟩; have n0_ := Aside0.mk (Kd.R_elder' (by (with_reducible repeat (first | apply Kd.R_alloc | apply Kd.R_drewN | apply Kd.R_drew)); exact HO105.out) (Kd.R_base ho0) hb); have n1_ := Aside0.mk (Kd.R_lower (Kd.R_new' ho0 (Kd.R_lt (by (with_reducible repeat (first | apply Kd.R_alloc | apply Kd.R_drewN | apply Kd.R_drew)); exact HO105.out))) (below_size (by repeat (first | (with_reducible first | exact HB.out | apply below_alloc | apply pw_below_drewN | apply below_drew1) | exact HB.out)))); have n2_ := Aside0.mk (below_step (by repeat (first | (with_reducible first | exact HB.out | apply below_alloc | apply pw_below_drewN | apply below_drew1) | exact HB.out)) hb); clear HO105; clear HB; have HO105 := n0_; have HO110 := n1_; have HB := n2_; clear n0_ n1_ n2_; (try clear hb); (try clear hb2); (try clear hk); (try clear hi); (try clear ho0)) | ((with_reducible refine gate_dst (N := 18) rfl ?_); (try (refine gate_guard (by rfl) ?_; dsimp only)); refine Kd.R_lit Kd.string _ 9 ?hg (N := 18) ?hd (xs := ([(⟨#[97]⟩ : ByteArray), (⟨#[98, 32, 99]⟩ : ByteArray)] : List ByteArray)) (inner := [.string (⟨#[97]⟩ : ByteArray), .string (⟨#[98, 32, 99]⟩ : ByteArray)]) (ok := fun _ => True) (okp := fun _ => True) ?hr ?hp (fun _ hk => hk) trivial (Below.refl _ _) (Nat.le_refl _) (by simp) ?_; (case hd => rfl); (case hg => rfl); (case hr => first | (go_simp; done) | (go_simp; rfl)); (case hp => exact (Reps.one (show Kd.M Kd.string _ _ _ (⟨#[97]⟩ : ByteArray) [.string (⟨#[97]⟩ : ByteArray)] from rfl) (Reps.one (show Kd.M Kd.string _ _ _ (⟨#[98, 32, 99]⟩ : ByteArray) [.string (⟨#[98, 32, 99]⟩ : ByteArray)] from rfl) (Reps.none _ _)))); intro v112 w53 ho54 hb hg_ hnew_; clear hg_ hnew_; (first | rw [← Ny111.out] at ho54 | (simp only [Int.reduceToNat] at ho54; rw [← Ny111.out] at ho54)); have n0_ := Aside0.mk (Kd.R_elder' (by (with_reducible repeat (first | apply Kd.R_alloc | apply Kd.R_drewN | apply Kd.R_drew)); exact HO105.out) (Kd.R_base ho54) hb); have n1_ := Aside0.mk (Kd.R_elder' (by (with_reducible repeat (first | apply Kd.R_alloc | apply Kd.R_drewN | apply Kd.R_drew)); exact HO110.out) (Kd.R_base ho54) hb); have n2_ := Aside0.mk (Kd.R_lower (Kd.R_new' (Kd.R_new' ho54 (Kd.R_lt (by (with_reducible repeat (first | apply Kd.R_alloc | apply Kd.R_drewN | apply Kd.R_drew)); exact HO105.out))) (Kd.R_lt (by (with_reducible repeat (first | apply Kd.R_alloc | apply Kd.R_drewN | apply Kd.R_drew)); exact HO110.out))) (below_size (by repeat (first | (with_reducible first | exact HB.out | apply below_alloc | apply pw_below_drewN | apply below_drew1) | exact HB.out)))); have n3_ := Aside0.mk (below_step (by repeat (first | (with_reducible first | exact HB.out | apply below_alloc | apply pw_below_drewN | apply below_drew1) | exact HB.out)) hb); clear HO105; clear HO110; clear HB; have HO105 := n0_; have HO110 := n1_; have HO113 := n2_; have HB := n3_; clear n0_ n1_ n2_ n3_; clear hb ho54; obtain ⟨Ao55, co55, eo55⟩ := Kd.R_slice HO105.out; subst eo55; obtain ⟨Ao56, co56, eo56⟩ := Kd.R_slice HO113.out; subst eo56) | ((with_reducible refine gate_callee (f := 14) rfl ?_); refine goesL_ (some 19) rfl rfl Tryd.func14 (by kernel_rfl) rfl #[.slice Ao55 t101.length co55, .slice Ao56 y111.length co56] rfl (by (try simp only [List.map_toArray, List.map_cons, List.map_nil]); first | done | rfl | (simp only [List.length_drop, List.length_take]; rfl)) ?_; (with_reducible refine (chicaneref15_Same.calls k _ _ t101 _ _ y111 true _ ?side1 ?side2 ?side3 ?side4 A3.out).mono ?_); (case side1 => repeat (first | exact (Kd.R_reads' HO105.out).2.2 | (with_reducible refine Kd.C_alloc ?_ _) | (with_reducible refine Kd.C_drewN ?_ _) | (with_reducible refine Kd.C_drew ?_))); (case side2 => exact (Kd.R_reads' HO105.out).2.1); (case side3 => repeat (first | exact (Kd.R_reads' HO113.out).2.2 | (with_reducible refine Kd.C_alloc ?_ _) | (with_reducible refine Kd.C_drewN ?_ _) | (with_reducible refine Kd.C_drew ?_))); (case side4 => exact (Kd.R_reads' HO113.out).2.1); rintro e w' ⟨rfl, ⟨nd, rfl⟩⟩; refine ⟨_, rfl, ?_⟩))
    go_ret
    exact ⟨by first | rfl | (simp [errW_none, errW_some] <;> rfl) | (simp [*, errW_none, errW_some] <;> rfl), by repeat (first | (with_reducible first | exact HB.out | apply below_alloc | apply pw_below_drewN | apply below_drew1) | exact HB.out)⟩
  ·rw [if_neg c5] at H
   have c5b0 : (t102 == 11) = false := beq_eq_false_iff_ne.mpr c5
   have c5b1 : (t102 != 11) = true := bne_iff_ne.mpr c5
   obtain rfl := Option.some.inj H
   go_enter Tryd.func10, Tryd.ntmps10
   go_wp2_with (first | ((with_reducible refine gate_callee (f := 13) rfl ?_); refine goesL_ (some 8) rfl rfl Tryd.func13 (by kernel_rfl) rfl #[.string (⟨#[97, 32, 34, 98, 32, 99, 34, 32, 35, 32, 100]⟩ : ByteArray)] rfl (by (try simp only [List.map_toArray, List.map_cons, List.map_nil]); first | done | rfl | (simp only [List.length_drop, List.length_take]; rfl)) ?_; (with_reducible refine (words_Split.calls (⟨#[97, 32, 34, 98, 32, 99, 34, 32, 35, 32, 100]⟩ : ByteArray) t101 t102 t103 _ A1.out).mono ?_); rintro e w57 ⟨v104, rfl, ho0, hb⟩; refine ⟨_, rfl, ?_⟩; have n0_ := Aside0.mk (Kd.R_lower ho0 (below_size (by repeat (first | (with_reducible first | exact HB.out | apply below_alloc | apply pw_below_drewN | apply below_drew1) | exact HB.out)))); have n1_ := Aside0.mk (below_step (by repeat (first | (with_reducible first | exact HB.out | apply below_alloc | apply pw_below_drewN | apply below_drew1) | exact HB.out)) hb); clear HB; have HO105 := n0_; have HB := n1_; clear n0_ n1_; (try clear hb); (try clear hb2); (try clear hk); (try clear hi); (try clear ho0)) | ((with_reducible refine gate_callee (f := 13) rfl ?_); refine goesL_ (some 13) rfl rfl Tryd.func13 (by kernel_rfl) rfl #[.string (⟨#[97, 34, 98]⟩ : ByteArray)] rfl (by (try simp only [List.map_toArray, List.map_cons, List.map_nil]); first | done | rfl | (simp only [List.length_drop, List.length_take]; rfl)) ?_; (with_reducible refine (words_Split.calls (⟨#[97, 34, 98]⟩ : ByteArray) t106 t107 t108 _ A2.out).mono ?_); rintro e w58 ⟨v109, rfl, ho0, hb⟩; refine ⟨_, rfl, ?_⟩; have n0_ := Aside0.mk (Kd.R_elder' (by (with_reducible repeat (first | apply Kd.R_alloc | apply Kd.R_drewN | apply Kd.R_drew)); exact HO105.out) (Kd.R_base ho0) hb); have n1_ := Aside0.mk (Kd.R_lower (Kd.R_new' ho0 (Kd.R_lt (by (with_reducible repeat (first | apply Kd.R_alloc | apply Kd.R_drewN | apply Kd.R_drew)); exact HO105.out))) (below_size (by repeat (first | (with_reducible first | exact HB.out | apply below_alloc | apply pw_below_drewN | apply below_drew1) | exact HB.out)))); have n2_ := Aside0.mk (below_step (by repeat (first | (with_reducible first | exact HB.out | apply below_alloc | apply pw_below_drewN | apply below_drew1) | exact HB.out)) hb); clear HO105; clear HB; have HO105 := n0_; have HO110 := n1_; have HB := n2_; clear n0_ n1_ n2_; (try clear hb); (try clear hb2); (try clear hk); (try clear hi); (try clear ho0)) | ((with_reducible refine gate_dst (N := 18) rfl ?_); (try (refine gate_guard (by rfl) ?_; dsimp only)); refine Kd.R_lit Kd.string _ 9 ?hg (N := 18) ?hd (xs := ([(⟨#[97]⟩ : ByteArray), (⟨#[98, 32, 99]⟩ : ByteArray)] : List ByteArray)) (inner := [.string (⟨#[97]⟩ : ByteArray), .string (⟨#[98, 32, 99]⟩ : ByteArray)]) (ok := fun _ => True) (okp := fun _ => True) ?hr ?hp (fun _ hk => hk) trivial (Below.refl _ _) (Nat.le_refl _) (by simp) ?_; (case hd => rfl); (case hg => rfl); (case hr => first | (go_simp; done) | (go_simp; rfl)); (case hp => exact (Reps.one (show Kd.M Kd.string _ _ _ (⟨#[97]⟩ : ByteArray) [.string (⟨#[97]⟩ : ByteArray)] from rfl) (Reps.one (show Kd.M Kd.string _ _ _ (⟨#[98, 32, 99]⟩ : ByteArray) [.string (⟨#[98, 32, 99]⟩ : ByteArray)] from rfl) (Reps.none _ _)))); intro v112 w59 ho60 hb hg_ hnew_; clear hg_ hnew_; (first | rw [← Ny111.out] at ho60 | (simp only [Int.reduceToNat] at ho60; rw [← Ny111.out] at ho60)); have n0_ := Aside0.mk (Kd.R_elder' (by (with_reducible repeat (first | apply Kd.R_alloc | apply Kd.R_drewN | apply Kd.R_drew)); exact HO105.out) (Kd.R_base ho60) hb); have n1_ := Aside0.mk (Kd.R_elder' (by (with_reducible repeat (first | apply Kd.R_alloc | apply Kd.R_drewN | apply Kd.R_drew)); exact HO110.out) (Kd.R_base ho60) hb); have n2_ := Aside0.mk (Kd.R_lower (Kd.R_new' (Kd.R_new' ho60 (Kd.R_lt (by (with_reducible repeat (first | apply Kd.R_alloc | apply Kd.R_drewN | apply Kd.R_drew)); exact HO105.out))) (Kd.R_lt (by (with_reducible repeat (first | apply Kd.R_alloc | apply Kd.R_drewN | apply Kd.R_drew)); exact HO110.out))) (below_size (by repeat (first | (with_reducible first | exact HB.out | apply below_alloc | apply pw_below_drewN | apply below_drew1) | exact HB.out)))); have n3_ := Aside0.mk (below_step (by repeat (first | (with_reducible first | exact HB.out | apply below_alloc | apply pw_below_drewN | apply below_drew1) | exact HB.out)) hb); clear HO105; clear HO110; clear HB; have HO105 := n0_; have HO110 := n1_; have HO113 := n2_; have HB := n3_; clear n0_ n1_ n2_ n3_; clear hb ho60; obtain ⟨Ao61, co61, eo61⟩ := Kd.R_slice HO105.out; subst eo61; obtain ⟨Ao62, co62, eo62⟩ := Kd.R_slice HO113.out; subst eo62) | ((with_reducible refine gate_callee (f := 14) rfl ?_); refine goesL_ (some 19) rfl rfl Tryd.func14 (by kernel_rfl) rfl #[.slice Ao61 t101.length co61, .slice Ao62 y111.length co62] rfl (by (try simp only [List.map_toArray, List.map_cons, List.map_nil]); first | done | rfl | (simp only [List.length_drop, List.length_take]; rfl)) ?_; (with_reducible refine (chicaneref15_Same.calls k _ _ t101 _ _ y111 true _ ?side1 ?side2 ?side3 ?side4 A3.out).mono ?_); (case side1 => repeat (first | exact (Kd.R_reads' HO105.out).2.2 | (with_reducible refine Kd.C_alloc ?_ _) | (with_reducible refine Kd.C_drewN ?_ _) | (with_reducible refine Kd.C_drew ?_))); (case side2 => exact (Kd.R_reads' HO105.out).2.1); (case side3 => repeat (first | exact (Kd.R_reads' HO113.out).2.2 | (with_reducible refine Kd.C_alloc ?_ _) | (with_reducible refine Kd.C_drewN ?_ _) | (with_reducible refine Kd.C_drew ?_))); (case side4 => exact (Kd.R_reads' HO113.out).2.1); rintro e w' ⟨rfl, ⟨nd, rfl⟩⟩; refine ⟨_, rfl, ?_⟩))
   go_ret
   exact ⟨by first | rfl | (simp [errW_none, errW_some] <;> rfl) | (simp [*, errW_none, errW_some] <;> rfl), by repeat (first | (with_reducible first | exact HB.out | apply below_alloc | apply pw_below_drewN | apply below_drew1) | exact HB.out)⟩
 ·replace c4 := Bool.eq_false_iff.mpr c4
  subst c4
  have H1 : (some false) = some r := by rw [if_neg (show ¬ (false = true) by decide)] at H; exact H
  clear H
  have H := H1
  clear H1
  obtain rfl := Option.some.inj H
  go_enter Tryd.func10, Tryd.ntmps10
  go_wp2_with (first | ((with_reducible refine gate_callee (f := 13) rfl ?_); refine goesL_ (some 8) rfl rfl Tryd.func13 (by kernel_rfl) rfl #[.string (⟨#[97, 32, 34, 98, 32, 99, 34, 32, 35, 32, 100]⟩ : ByteArray)] rfl (by (try simp only [List.map_toArray, List.map_cons, List.map_nil]); first | done | rfl | (simp only [List.length_drop, List.length_take]; rfl)) ?_; (with_reducible refine (words_Split.calls (⟨#[97, 32, 34, 98, 32, 99, 34, 32, 35, 32, 100]⟩ : ByteArray) t101 t102 t103 _ A1.out).mono ?_); rintro e w63 ⟨v104, rfl, ho0, hb⟩; refine ⟨_, rfl, ?_⟩; have n0_ := Aside0.mk (Kd.R_lower ho0 (below_size (by repeat (first | (with_reducible first | exact HB.out | apply below_alloc | apply pw_below_drewN | apply below_drew1) | exact HB.out)))); have n1_ := Aside0.mk (below_step (by repeat (first | (with_reducible first | exact HB.out | apply below_alloc | apply pw_below_drewN | apply below_drew1) | exact HB.out)) hb); clear HB; have HO105 := n0_; have HB := n1_; clear n0_ n1_; (try clear hb); (try clear hb2); (try clear hk); (try clear hi); (try clear ho0)) | ((with_reducible refine gate_callee (f := 13) rfl ?_); refine goesL_ (some 13) rfl rfl Tryd.func13 (by kernel_rfl) rfl #[.string (⟨#[97, 34, 98]⟩ : ByteArray)] rfl (by (try simp only [List.map_toArray, List.map_cons, List.map_nil]); first | done | rfl | (simp only [List.length_drop, List.length_take]; rfl)) ?_; (with_reducible refine (words_Split.calls (⟨#[97, 34, 98]⟩ : ByteArray) t106 t107 t108 _ A2.out).mono ?_); rintro e w64 ⟨v109, rfl, ho0, hb⟩; refine ⟨_, rfl, ?_⟩; have n0_ := Aside0.mk (Kd.R_elder' (by (with_reducible repeat (first | apply Kd.R_alloc | apply Kd.R_drewN | apply Kd.R_drew)); exact HO105.out) (Kd.R_base ho0) hb); have n1_ := Aside0.mk (Kd.R_lower (Kd.R_new' ho0 (Kd.R_lt (by (with_reducible repeat (first | apply Kd.R_alloc | apply Kd.R_drewN | apply Kd.R_drew)); exact HO105.out))) (below_size (by repeat (first | (with_reducible first | exact HB.out | apply below_alloc | apply pw_below_drewN | apply below_drew1) | exact HB.out)))); have n2_ := Aside0.mk (below_step (by repeat (first | (with_reducible first | exact HB.out | apply below_alloc | apply pw_below_drewN | apply below_drew1) | exact HB.out)) hb); clear HO105; clear HB; have HO105 := n0_; have HO110 := n1_; have HB := n2_; clear n0_ n1_ n2_; (try clear hb); (try clear hb2); (try clear hk); (try clear hi); (try clear ho0)) | ((with_reducible refine gate_dst (N := 18) rfl ?_); (try (refine gate_guard (by rfl) ?_; dsimp only)); refine Kd.R_lit Kd.string _ 9 ?hg (N := 18) ?hd (xs := ([(⟨#[97]⟩ : ByteArray), (⟨#[98, 32, 99]⟩ : ByteArray)] : List ByteArray)) (inner := [.string (⟨#[97]⟩ : ByteArray), .string (⟨#[98, 32, 99]⟩ : ByteArray)]) (ok := fun _ => True) (okp := fun _ => True) ?hr ?hp (fun _ hk => hk) trivial (Below.refl _ _) (Nat.le_refl _) (by simp) ?_; (case hd => rfl); (case hg => rfl); (case hr => first | (go_simp; done) | (go_simp; rfl)); (case hp => exact (Reps.one (show Kd.M Kd.string _ _ _ (⟨#[97]⟩ : ByteArray) [.string (⟨#[97]⟩ : ByteArray)] from rfl) (Reps.one (show Kd.M Kd.string _ _ _ (⟨#[98, 32, 99]⟩ : ByteArray) [.string (⟨#[98, 32, 99]⟩ : ByteArray)] from rfl) (Reps.none _ _)))); intro v112 w65 ho66 hb hg_ hnew_; clear hg_ hnew_; (first | rw [← Ny111.out] at ho66 | (simp only [Int.reduceToNat] at ho66; rw [← Ny111.out] at ho66)); have n0_ := Aside0.mk (Kd.R_elder' (by (with_reducible repeat (first | apply Kd.R_alloc | apply Kd.R_drewN | apply Kd.R_drew)); exact HO105.out) (Kd.R_base ho66) hb); have n1_ := Aside0.mk (Kd.R_elder' (by (with_reducible repeat (first | apply Kd.R_alloc | apply Kd.R_drewN | apply Kd.R_drew)); exact HO110.out) (Kd.R_base ho66) hb); have n2_ := Aside0.mk (Kd.R_lower (Kd.R_new' (Kd.R_new' ho66 (Kd.R_lt (by (with_reducible repeat (first | apply Kd.R_alloc | apply Kd.R_drewN | apply Kd.R_drew)); exact HO105.out))) (Kd.R_lt (by (with_reducible repeat (first | apply Kd.R_alloc | apply Kd.R_drewN | apply Kd.R_drew)); exact HO110.out))) (below_size (by repeat (first | (with_reducible first | exact HB.out | apply below_alloc | apply pw_below_drewN | apply below_drew1) | exact HB.out)))); have n3_ := Aside0.mk (below_step (by repeat (first | (with_reducible first | exact HB.out | apply below_alloc | apply pw_below_drewN | apply below_drew1) | exact HB.out)) hb); clear HO105; clear HO110; clear HB; have HO105 := n0_; have HO110 := n1_; have HO113 := n2_; have HB := n3_; clear n0_ n1_ n2_ n3_; clear hb ho66; obtain ⟨Ao67, co67, eo67⟩ := Kd.R_slice HO105.out; subst eo67; obtain ⟨Ao68, co68, eo68⟩ := Kd.R_slice HO113.out; subst eo68) | ((with_reducible refine gate_callee (f := 14) rfl ?_); refine goesL_ (some 19) rfl rfl Tryd.func14 (by kernel_rfl) rfl #[.slice Ao67 t101.length co67, .slice Ao68 y111.length co68] rfl (by (try simp only [List.map_toArray, List.map_cons, List.map_nil]); first | done | rfl | (simp only [List.length_drop, List.length_take]; rfl)) ?_; (with_reducible refine (chicaneref15_Same.calls k _ _ t101 _ _ y111 false _ ?side1 ?side2 ?side3 ?side4 A3.out).mono ?_); (case side1 => repeat (first | exact (Kd.R_reads' HO105.out).2.2 | (with_reducible refine Kd.C_alloc ?_ _) | (with_reducible refine Kd.C_drewN ?_ _) | (with_reducible refine Kd.C_drew ?_))); (case side2 => exact (Kd.R_reads' HO105.out).2.1); (case side3 => repeat (first | exact (Kd.R_reads' HO113.out).2.2 | (with_reducible refine Kd.C_alloc ?_ _) | (with_reducible refine Kd.C_drewN ?_ _) | (with_reducible refine Kd.C_drew ?_))); (case side4 => exact (Kd.R_reads' HO113.out).2.1); rintro e w' ⟨rfl, ⟨nd, rfl⟩⟩; refine ⟨_, rfl, ?_⟩))
  go_ret
  exact ⟨by first | rfl | (simp [errW_none, errW_some] <;> rfl) | (simp [*, errW_none, errW_some] <;> rfl), by repeat (first | (with_reducible first | exact HB.out | apply below_alloc | apply pw_below_drewN | apply below_drew1) | exact HB.out)⟩
def chicanelaw15_WordsJoins.l0 : Nat → List ByteArray → Int → List ByteArray → Int → Int → Option (Bool)
 | 0, _, _, _, _, _ => none
 | k + 1, x0, x3, x6, x7, x8 => if x8 < x7 then (if 0 ≤ x8 then (if x8 < (x6.length : Int) then ((words_Plain.f k (rdOf ByteArray.empty x6 x8)).bind fun t124 => ((chicaneref15_Plain.f k (rdOf ByteArray.empty x6 x8)).bind fun t125 => (if (t124 != t125) = true then (some false) else (chicanelaw15_WordsJoins.l0 k x0 (wrap64 (x3 + ((rdOf ByteArray.empty x6 x8).size : Int))) x6 x7 (wrap64 (x8 + 1)))))) else (none)) else (none)) else ((chicanelaw15_alive.f k).bind fun t120 => (if t120 = true then (if x3 > 2000 then (some true) else ((words_Join.f x0).bind fun t121 => ((chicaneref15_Join.f k x0).bind fun t122 => (some (t121.toList == t122.toList))))) else (some false)))
def chicanelaw15_WordsJoins.f (k : Nat) (l0 : List ByteArray) : Option (Bool) := chicanelaw15_WordsJoins.l0 k l0 0 l0 (l0.length : Int) 0
theorem chicanelaw15_WordsJoins.mono_l : ∀ k, (∀ y0 y1 y2 y3 y4, LeO (chicanelaw15_WordsJoins.l0 k y0 y1 y2 y3 y4) (chicanelaw15_WordsJoins.l0 (k + 1) y0 y1 y2 y3 y4))
 | 0 => fun _ _ _ _ _ r h => by simp [chicanelaw15_WordsJoins.l0] at h
 | k + 1 => by
  have ih0 := chicanelaw15_WordsJoins.mono_l k
  ·intro y0 y1 y2 y3 y4
   unfold chicanelaw15_WordsJoins.l0
   repeat' first
   | (with_reducible exact ih0 _ _ _ _ _)
   | (with_reducible exact chicanelaw15_alive.mono _)
   | (with_reducible exact chicaneref15_Join.mono _ _)
   | (with_reducible exact chicaneref15_Plain.mono _ _)
   | (with_reducible exact words_Plain.mono _ _)
   | (with_reducible exact LeO.refl _)
   | (with_reducible exact LeO.none _)
   | (with_reducible refine LeO.ite ?_ ?_)
   | (with_reducible refine LeO.bind ?_ (fun _ => ?_))
   | exact ih0 _ _ _ _ _
   | exact chicanelaw15_alive.mono _
   | exact chicaneref15_Join.mono _ _
   | exact chicaneref15_Plain.mono _ _
   | exact words_Plain.mono _ _
   | exact LeO.none _
   | refine LeO.ite ?_ ?_
   | refine LeO.bind ?_ (fun _ => ?_)
theorem chicanelaw15_WordsJoins.mono : ∀ a0 k, LeO (chicanelaw15_WordsJoins.f k a0) (chicanelaw15_WordsJoins.f (k + 1) a0) := by
 intro a0 k
 have ih0 := chicanelaw15_WordsJoins.mono_l k
 unfold chicanelaw15_WordsJoins.f
 repeat' first
   | (with_reducible exact ih0 _ _ _ _ _)
   | (with_reducible exact chicanelaw15_alive.mono _)
   | (with_reducible exact chicaneref15_Join.mono _ _)
   | (with_reducible exact chicaneref15_Plain.mono _ _)
   | (with_reducible exact words_Plain.mono _ _)
   | (with_reducible exact LeO.refl _)
   | (with_reducible exact LeO.none _)
   | (with_reducible refine LeO.ite ?_ ?_)
   | (with_reducible refine LeO.bind ?_ (fun _ => ?_))
   | exact ih0 _ _ _ _ _
   | exact chicanelaw15_alive.mono _
   | exact chicaneref15_Join.mono _ _
   | exact chicaneref15_Plain.mono _ _
   | exact words_Plain.mono _ _
   | exact LeO.none _
   | refine LeO.ite ?_ ?_
   | refine LeO.bind ?_ (fun _ => ?_)
def chicanelaw15_WordsOnce.f (k : Nat) (a0 : ByteArray) : Option (Bool) := if (a0.size : Int) > 1000 then ((chicanelaw15_alive.f k).bind fun t126 => (some t126)) else ((words_Split.f a0).bind fun bt127 => (if bt127.2.2 = 0 then ((words_Join.f bt127.1).bind fun t133 => ((words_Split.f t133).bind fun bt134 => ((chicanelaw15_alive.f k).bind fun t139 => (if t139 = true then (if t133.toList = ([] : List UInt8) then (if (bt127.1.length : Int) > 0 then (some true) else (if bt134.2.2 = 0 then ((chicaneref15_Same.f k bt134.1 bt127.1).bind fun t140 => (some t140)) else (some false))) else (if bt134.2.2 = 0 then ((chicaneref15_Same.f k bt134.1 bt127.1).bind fun t141 => (some t141)) else (some false))) else (some false))))) else ((chicanelaw15_alive.f k).bind fun t132 => (if t132 = true then (some ((bt127.1.length : Int) == 0)) else (some false)))))
theorem chicanelaw15_WordsOnce.mono : ∀ a0 k, LeO (chicanelaw15_WordsOnce.f k a0) (chicanelaw15_WordsOnce.f (k + 1) a0) := by
 intro a0 k
 unfold chicanelaw15_WordsOnce.f
 repeat' first
   | (with_reducible exact chicanelaw15_alive.mono _)
   | (with_reducible exact chicaneref15_Same.mono _ _ _)
   | (with_reducible exact LeO.refl _)
   | (with_reducible exact LeO.none _)
   | (with_reducible refine LeO.ite ?_ ?_)
   | (with_reducible refine LeO.bind ?_ (fun _ => ?_))
   | exact chicanelaw15_alive.mono _
   | exact chicaneref15_Same.mono _ _ _
   | exact LeO.none _
   | refine LeO.ite ?_ ?_
   | refine LeO.bind ?_ (fun _ => ?_)
def chicanelaw15_WordsRest.l0 : Nat → ByteArray → List ByteArray → List ByteArray → Int → Int → Int → Option (Bool)
 | 0, _, _, _, _, _, _ => none
 | k + 1, x1, x5, x8, x10, x40, x41 => if x41 < x40 then (if 0 ≤ x41 then (if x41 < (x1.size : Int) then (if (bt x1 x41) < 32 then (if (bt x1 x41) = 9 then (chicanelaw15_WordsRest.l0 k x1 x5 x8 x10 x40 (wrap64 (x41 + 1))) else ((chicanelaw15_alive.f k).bind fun t154 => (if t154 = true then (some (x10 == 150)) else (some false)))) else (if (bt x1 x41) > 126 then (if (bt x1 x41) = 9 then (chicanelaw15_WordsRest.l0 k x1 x5 x8 x10 x40 (wrap64 (x41 + 1))) else ((chicanelaw15_alive.f k).bind fun t155 => (if t155 = true then (some (x10 == 150)) else (some false)))) else (chicanelaw15_WordsRest.l0 k x1 x5 x8 x10 x40 (wrap64 (x41 + 1))))) else (none)) else (none)) else ((chicanelaw15_alive.f k).bind fun t156 => (if t156 = true then (if x10 = 0 then ((chicaneref15_Same.f k x8 x5).bind fun t157 => (some t157)) else (some false)) else (some false)))
def chicanelaw15_WordsRest.f (k : Nat) (a0 : ByteArray) (a1 : ByteArray) : Option (Bool) := if (wrap64 ((wrap64 ((a0.size : Int) + (a1.size : Int))) + 2)) > 256 then ((chicanelaw15_alive.f k).bind fun t142 => (some t142)) else ((words_Split.f a0).bind fun bt143 => (if bt143.2.2 = 0 then (if a0.size + 2 ≤ 9223372036854775807 then (if (a0 ++ (⟨#[32, 35]⟩ : ByteArray)).size + a1.size ≤ 9223372036854775807 then ((words_Split.f ((a0 ++ (⟨#[32, 35]⟩ : ByteArray)) ++ a1)).bind fun bt149 => (chicanelaw15_WordsRest.l0 k a1 bt143.1 bt149.1 bt149.2.2 (a1.size : Int) 0)) else (none)) else (none)) else ((chicanelaw15_alive.f k).bind fun t148 => (some t148))))
theorem chicanelaw15_WordsRest.mono_l : ∀ k, (∀ y0 y1 y2 y3 y4 y5, LeO (chicanelaw15_WordsRest.l0 k y0 y1 y2 y3 y4 y5) (chicanelaw15_WordsRest.l0 (k + 1) y0 y1 y2 y3 y4 y5))
 | 0 => fun _ _ _ _ _ _ r h => by simp [chicanelaw15_WordsRest.l0] at h
 | k + 1 => by
  have ih0 := chicanelaw15_WordsRest.mono_l k
  ·intro y0 y1 y2 y3 y4 y5
   unfold chicanelaw15_WordsRest.l0
   repeat' first
   | (with_reducible exact ih0 _ _ _ _ _ _)
   | (with_reducible exact chicanelaw15_alive.mono _)
   | (with_reducible exact chicaneref15_Same.mono _ _ _)
   | (with_reducible exact LeO.refl _)
   | (with_reducible exact LeO.none _)
   | (with_reducible refine LeO.ite ?_ ?_)
   | (with_reducible refine LeO.bind ?_ (fun _ => ?_))
   | exact ih0 _ _ _ _ _ _
   | exact chicanelaw15_alive.mono _
   | exact chicaneref15_Same.mono _ _ _
   | exact LeO.none _
   | refine LeO.ite ?_ ?_
   | refine LeO.bind ?_ (fun _ => ?_)
theorem chicanelaw15_WordsRest.mono : ∀ a0 a1 k, LeO (chicanelaw15_WordsRest.f k a0 a1) (chicanelaw15_WordsRest.f (k + 1) a0 a1) := by
 intro a0 a1 k
 have ih0 := chicanelaw15_WordsRest.mono_l k
 unfold chicanelaw15_WordsRest.f
 repeat' first
   | (with_reducible exact ih0 _ _ _ _ _ _)
   | (with_reducible exact chicanelaw15_alive.mono _)
   | (with_reducible exact chicaneref15_Same.mono _ _ _)
   | (with_reducible exact LeO.refl _)
   | (with_reducible exact LeO.none _)
   | (with_reducible refine LeO.ite ?_ ?_)
   | (with_reducible refine LeO.bind ?_ (fun _ => ?_))
   | exact ih0 _ _ _ _ _ _
   | exact chicanelaw15_alive.mono _
   | exact chicaneref15_Same.mono _ _ _
   | exact LeO.none _
   | refine LeO.ite ?_ ?_
   | refine LeO.bind ?_ (fun _ => ?_)
end Go.Proofs.YtbfeokfninedcaaDoor.PWrdB
set_option linter.unusedVariables false
set_option linter.unusedSimpArgs false
namespace Go.Proofs.YtbfeokfninedcaaDoor.Ext
open Go.RowKit Go.Proofs.YtbfeokfninedcaaDoorW.PrintWords Go.Proofs.YtbfeokfninedcaaDoorW.PrintLast Go.Proofs.YtbfeokfninedcaaDoor.PWrdA Go.Proofs.YtbfeokfninedcaaDoor.PWrdB
set_option maxRecDepth 100000 in
theorem alive100 : chicanelaw15_alive.f 100 = some true := by kernel_rfl
theorem w64n (k : Nat) (h : k < 9223372036854775807) : wrap64 ((k : Int) + 1) = ((k + 1 : Nat) : Int) := by unfold wrap64; omega
theorem same_l0 (a : List ByteArray) (ha : a.length < 9223372036854775807) : ∀ (k i : Nat), a.length - i < k → i ≤ a.length → chicaneref15_Same.l0 k a a (i : Int) = some true := by
  intro k
  induction k with
  | zero => intro i h; omega
  | succ k ih =>
    intro i h hi
    unfold chicaneref15_Same.l0
    by_cases hl : i < a.length
    · rw [if_pos (by omega), if_pos (by omega), if_pos (by omega), if_pos rfl, w64n i (by omega)]
      exact ih (i + 1) (by omega) (by omega)
    · rw [if_neg (by omega)]
theorem same15 (a : List ByteArray) (ha : a.length < 9223372036854775807) (k : Nat) (hk : a.length < k) : chicaneref15_Same.f k a a = some true := by
  unfold chicaneref15_Same.f
  rw [if_pos rfl]
  exact same_l0 a ha k 0 (by omega) (Nat.zero_le _)
theorem bl_ba (l : List UInt8) : bl (ba l) = l := by simp [bl, ba]
theorem ba_bl (s : ByteArray) : ba (bl s) = s := ba_self s
theorem ba_size (l : List UInt8) : (ba l).size = l.length := by show l.toArray.size = _; rw [List.size_toArray]
theorem split_f (s : ByteArray) : words_Split.f s = some ((WP.split (bl s)).1.map ba, (((WP.split (bl s)).2.1 : Nat) : Int), (((WP.split (bl s)).2.2 : Nat) : Int)) := rfl
theorem bl_app (a b : ByteArray) : bl (a ++ b) = bl a ++ bl b := by simp [bl]
theorem bl_len (a : ByteArray) : (bl a).length = a.size := by simp [bl]
end Go.Proofs.YtbfeokfninedcaaDoor.Ext
set_option linter.unusedVariables false
set_option linter.unusedSimpArgs false
namespace Go.Proofs.YtbfeokfninedcaaDoor.Ext
open Go.RowKit Go.Proofs.YtbfeokfninedcaaDoorW.PrintWords Go.Proofs.YtbfeokfninedcaaDoorW.PrintLast Go.Proofs.YtbfeokfninedcaaDoor.PWrdA Go.Proofs.YtbfeokfninedcaaDoor.PWrdB
def wsum : Int → List ByteArray → Int
  | n, [] => n
  | n, s :: r => wsum (wrap64 (n + (s.size : Int))) r
theorem wsum_small (l : List ByteArray) (hl : l.length ≤ 16) (hs : ∀ x ∈ l, x.size ≤ 140737488351232) : ∀ n : Nat, n ≤ 140737488351232 * (16 - l.length) → (n : Int) ≤ wsum n l ∧ ∀ x ∈ l, (x.size : Int) ≤ wsum n l := by
  induction l with
  | nil => intro n _; exact ⟨Int.le_refl _, fun x hx => by cases hx⟩
  | cons a r ih =>
    intro n hn
    have ha := hs a List.mem_cons_self
    rw [List.length_cons] at hl hn
    have e : wrap64 ((n : Int) + (a.size : Int)) = ((n + a.size : Nat) : Int) := by unfold wrap64; omega
    rw [wsum, e]
    have := ih (by omega) (fun x hx => hs x (List.mem_cons_of_mem _ hx)) (n + a.size) (by
      have : 16 - r.length = (16 - (r.length + 1)) + 1 := by omega
      rw [this, Nat.mul_add]
      omega)
    refine ⟨by omega, fun x hx => ?_⟩
    rw [List.mem_cons] at hx
    rcases hx with rfl | hx
    · omega
    · exact this.2 x hx
end Go.Proofs.YtbfeokfninedcaaDoor.Ext
set_option linter.unusedVariables false
set_option linter.unusedSimpArgs false
namespace Go.Proofs.YtbfeokfninedcaaDoor.Ext
open Go.RowKit Go.Proofs.YtbfeokfninedcaaDoorW.PrintWords Go.Proofs.YtbfeokfninedcaaDoorW.PrintLast Go.Proofs.YtbfeokfninedcaaDoor.PWrdA Go.Proofs.YtbfeokfninedcaaDoor.PWrdB
def tr (l : List UInt8) : List UInt8 := if l.getLast? = some 13 then l.take (l.length - 1) else l
end Go.Proofs.YtbfeokfninedcaaDoor.Ext
set_option linter.unusedVariables false
set_option linter.unusedSimpArgs false
namespace Go.Proofs.YtbfeokfninedcaaDoor.Ext
open Go.RowKit Go.Proofs.YtbfeokfninedcaaDoorW.PrintWords Go.Proofs.YtbfeokfninedcaaDoorW.PrintLast Go.Proofs.YtbfeokfninedcaaDoor.PWrdA Go.Proofs.YtbfeokfninedcaaDoor.PWrdB
theorem alive_call (w : World) : Calls Tryd.prog 10 #[] w fun e w' => e = .returned (.bool true) ∧ Below w.heap.size w w' :=
  chicanelaw15_alive.calls 100 true w alive100
theorem iter_below (w : World) (s : ByteArray) (p : Nat) : Below w.heap.size w (w.iter s p) := (Below.refl _ w).alloc (Nat.le_refl _) _
theorem same_call (l : List ByteArray) (hl : l.length < 9223372036854775807) (A0 A1 : Option Addr) (c0 c1 : Nat) (w : World) (h0 : Kd.C Kd.string w A0 l.length l) (hc0 : l.length ≤ c0) (h1 : Kd.C Kd.string w A1 l.length l) (hc1 : l.length ≤ c1) :
    Calls Tryd.prog 14 #[.slice A0 l.length c0, .slice A1 l.length c1] w fun e w' => e = .returned (.bool true) ∧ Below w.heap.size w w' :=
  (chicaneref15_Same.calls (l.length + 1) A0 c0 l A1 c1 l true w h0 hc0 h1 hc1 (same15 l hl _ (by omega))).mono fun e w' h => ⟨h.1, Drawn0.below h.2⟩
theorem blk_32 (c : UInt8) : WP.blk c = true ↔ c.toNat = 32 ∨ c.toNat = 9 := by simp [WP.blk]
theorem split_call (s : ByteArray) (w : World) : Calls Tryd.prog 13 #[.string s] w fun e w' => ∃ A c, e = .returned (.tuple #[.slice A ((WP.split (bl s)).1.map ba).length c, .int .i64 ((WP.split (bl s)).2.1 : Nat), .int .i64 ((WP.split (bl s)).2.2 : Nat)]) ∧ ((WP.split (bl s)).1.map ba).length ≤ c ∧ Kd.C Kd.string w' A ((WP.split (bl s)).1.map ba).length ((WP.split (bl s)).1.map ba) ∧ Below w.heap.size w w' := by
  refine (words_Split.calls s _ _ _ w (split_f s)).mono ?_
  rintro e w' ⟨v, rfl, hR, hb⟩
  obtain ⟨A, c, rfl, hl, hC⟩ := Kd.R_reads hR
  exact ⟨A, c, rfl, hl, hC, hb⟩
theorem ba_map_bl (L : List ByteArray) : (L.map bl).map ba = L := by
  induction L with
  | nil => rfl
  | cons a r ih => rw [List.map_cons, List.map_cons, ih, ba_bl]
structure Sm (L : List ByteArray) (i : Nat) (n : Int) : Prop where
  h : wsum 0 L = wsum n (L.drop i)
theorem sm_next {L : List ByteArray} {i : Nat} {n : Int} (h : Sm L i n) (hi : i < L.length) (x : ByteArray) (hx : L[i] = x) : Sm L (i + 1) (wrap64 (n + (x.size : Int))) :=
  ⟨by rw [h.h, List.drop_eq_getElem_cons hi, hx, wsum]⟩
theorem sm_end {L : List ByteArray} {n : Int} (h : Sm L L.length n) : wsum 0 L = n := by
  have := h.h
  rw [List.drop_length] at this
  exact this
def Blk (s : ByteArray) (k : Nat) : Prop := ((bl s).take k).all WP.blk = true
theorem blk_step (s : ByteArray) (k : Nat) (h : k < s.size) (hb : Blk s k) (hr : (Utf8.decode s k).1 = 32 ∨ (Utf8.decode s k).1 = 9) : (Utf8.decode s k).2 = 1 ∧ Blk s (k + 1) := by
  have ha : (s[k]'h).toNat < 128 := by
    rcases Nat.lt_or_ge (s[k]'h).toNat 128 with h1 | h1
    · exact h1
    · have := (decode_high s k h h1).1; omega
  rw [decode_ascii s k h ha] at hr ⊢
  refine ⟨rfl, ?_⟩
  unfold Blk bl at hb ⊢
  rw [take_snoc_b s k h, List.all_append, hb]
  have : WP.blk (s[k]'h) = true := (blk_32 _).2 hr
  simp [this]
set_option maxRecDepth 100000 in
set_option maxHeartbeats 8000000 in
theorem back_law (L : List ByteArray) (hL : L.length ≤ 140737488351232) (hsz : ∀ x ∈ L, x.size ≤ 140737488351232) (A0 : Option Addr) (c0 : Nat) (ah be : ByteArray) (hah : ah.size ≤ 140737488351232) (hbe : be.size ≤ 140737488351232) (w : World)
    (hr0 : Kd.C Kd.string w A0 L.length L) (hc0 : L.length ≤ c0) :
    Calls Tryd.prog 4 #[.slice A0 L.length c0, .string ah, .string be] w fun e w' => e = .returned (.bool true) ∧ Below w.heap.size w w' := by
  have HA := Lib.hid alive_call
  have HSZ := Lib.hid hsz
  have HR0 := Lib.hid hr0
  have hcell : 0 < L.length → ∃ ad, A0 = some ad ∧ ∀ (j : Nat) x, L[j]? = some x → w.cell? (ad.add j) = some (.string x) := by
    intro hp
    obtain ⟨ad, rfl, hc⟩ := hr0.2.2 hp
    refine ⟨ad, rfl, fun j x hj => ?_⟩
    obtain ⟨c, _, hK, hu⟩ := hc j x hj
    have hK' : c = [Value.string x] := hK
    subst hK'
    have := hu 0 _ rfl
    have e : j * Kd.string.sz + 0 = j := by show j * 1 + 0 = j; omega
    rwa [e] at this
  have HCE := Lib.hid hcell
  clear hcell hr0 hsz
  have hcat : ¬ 9223372036854775807 < ah.size + be.size := by omega
  obtain ⟨T, hT⟩ : ∃ T, ah ++ be = T := ⟨_, rfl⟩
  have hTs : T.size = ah.size + be.size := by rw [← hT, ByteArray.size_append]
  have HT := Lib.hid hT
  have HTS := Lib.hid hTs
  have hTs2 : T.size ≤ 281474976702464 := by omega
  clear hTs
  go_enter Tryd.func4, Tryd.ntmps4
  go_wp2_with fail
  go_loopg [7, 18] L.length (fun g v7 v18 W2 => w = W2 ∧ ∃ (i : Nat) (n : Int), g = L.length - i ∧ i ≤ L.length ∧ v18 = .int .i64 i ∧ v7 = .int .i64 n ∧ Sm L i n)
  case atStart => exact ⟨rfl, 0, 0, by omega, by omega, rfl, rfl, ⟨by rw [List.drop_zero]⟩⟩
  case round =>
    obtain ⟨rfl, i, n, hg, hi, rfl, rfl, hsm⟩ := hrel
    have HG := Lib.hid hg
    have HSM := Lib.hid hsm
    clear hg hsm
    by_cases hi2 : i < L.length
    · obtain ⟨ad, rfl, hce⟩ := HCE.out (by omega)
      obtain ⟨x, hx⟩ : ∃ x, L[i] = x := ⟨_, rfl⟩
      have hxc := hce i x (by rw [List.getElem?_eq_getElem hi2, hx])
      have HX := Lib.hid hx
      clear hce hx
      go_wp2_with fail
      go_roundg (L.length - (i + 1))
      case measure => have := HG.out; omega
      case rel => exact ⟨rfl, i + 1, _, rfl, by omega, rfl, rfl, sm_next HSM.out hi2 x HX.out⟩
    · obtain rfl : i = L.length := by omega
      have hsum := sm_end HSM.out
      have HSUM := Lib.hid hsum
      clear hsum
      go_wp2_with fail
      go_loopg [] T.size (fun g W2 => ∃ k : Nat, g = T.size - k ∧ k ≤ T.size ∧ W2 = w.iter T k ∧ Blk T k)
      case atStart => exact ⟨0, by omega, by omega, rfl, rfl⟩
      case round =>
        obtain ⟨k, hg, hk, rfl, hbk⟩ := hrel
        have HG2 := Lib.hid hg
        have HBK := Lib.hid hbk
        clear hg hbk
        by_cases hkl : k < T.size
        · have hnx : ∀ ty, (Instr.next (.pointer (some ⟨w.heap.size, 0, none⟩)) true ty).run Tryd.prog (w.iter T k) = _ := fun ty => run_next_any w T k ty hkl
          have hbs := blk_step T k hkl HBK.out
          have hr31 := decode_le T k
          obtain ⟨r, wd, hrw⟩ : ∃ r wd, Utf8.decode T k = (r, wd) := ⟨_, _, rfl⟩
          rw [hrw] at hnx hbs hr31
          simp only at hnx hbs hr31
          have HBS := Lib.hid hbs
          clear hbs hrw
          have HIB := fun k => Lib.hid (iter_below w T k)
          have HIB2 := Lib.hid HIB
          clear HIB
          by_cases h32 : r = 32
          · subst h32
            obtain ⟨h1, h2⟩ := HBS.out (.inl rfl)
            subst h1
            have H2 := Lib.hid h2
            clear h2
            go_wp2_with fail
            go_roundg (T.size - (k + 1))
            case measure => have := HG2.out; omega
            case rel => exact ⟨k + 1, rfl, by omega, rfl, H2.out⟩
          · by_cases h9 : r = 9
            · subst h9
              obtain ⟨h1, h2⟩ := HBS.out (.inr rfl)
              subst h1
              have H2 := Lib.hid h2
              clear h2 h32
              go_wp2_with fail
              go_roundg (T.size - (k + 1))
              case measure => have := HG2.out; omega
              case rel => exact ⟨k + 1, rfl, by omega, rfl, H2.out⟩
            · have q1 : ((r : Int) != 32) = true := by simp; omega
              have q2 : ((r : Int) != 9) = true := by simp; omega
              clear h32 h9
              go_wp2_with (go_at_call 10; refine (HA.out _).mono ?_; rintro e w1 ⟨rfl, hb1⟩; have HB1 := Lib.hid hb1; clear hb1)
              go_ret
              exact ⟨rfl, below_then (HIB2.out _).out (HIB2.out _).out.size HB1.out⟩
        · obtain rfl : k = T.size := by omega
          have hne : ∀ ty, (Instr.next (.pointer (some ⟨w.heap.size, 0, none⟩)) true ty).run Tryd.prog (w.iter T T.size) = _ := fun ty => run_next_end w T T.size ty (Nat.lt_irrefl _)
          have HIB := Lib.hid (iter_below w T T.size)
          by_cases hn : 2000 < n
          · go_wp2_with (go_at_call 10; refine (HA.out _).mono ?_; rintro e w1 ⟨rfl, hb1⟩; have HB1 := Lib.hid hb1; clear hb1)
            go_ret
            exact ⟨rfl, below_then HIB.out HIB.out.size HB1.out⟩
          · have hc : 16 < L.length ∨ ∀ x ∈ L, x.size ≤ 2000 := by
              by_cases h16 : 16 < L.length
              · exact .inl h16
              · refine .inr fun x hx => ?_
                have h1 := (wsum_small L (by omega) HSZ.out 0 (Nat.zero_le _)).2 x hx
                rw [show ((0 : Nat) : Int) = 0 from rfl, HSUM.out] at h1
                omega
            have hjf : words_Join.f L = some (ba (WP.join (L.map bl))) := by
              unfold words_Join.f
              rw [if_pos]
              rcases hc with hc | hc
              · exact .inl hc
              · exact .inr (List.all_eq_true.2 fun x hx => by simpa using hc x hx)
            have hj256 : (WP.join (L.map bl)).length ≤ 256 := by
              unfold WP.join
              split
              · simp
              split
              · simp
              split
              · simp
              · omega
            have hback := WP.split_join (L.map bl) (bl ah) (bl be)
            obtain ⟨J, hJ⟩ : ∃ J, ba (WP.join (L.map bl)) = J := ⟨_, rfl⟩
            have hbJ : bl J = WP.join (L.map bl) := by rw [← hJ, bl_ba]
            have hJs : J.size ≤ 256 := by rw [← hJ, ba_size]; exact hj256
            rw [← hbJ] at hback
            rw [hJ] at hjf
            have hblk : (bl ah).all WP.blk = true ∧ (bl be).all WP.blk = true := by
              have h := HBK.out
              unfold Blk at h
              have h3 : (bl T).take T.size = bl T := take_all T
              rw [h3, ← HT.out, bl_app, List.all_append, Bool.and_eq_true] at h
              exact h
            have HJC := Lib.hid (fun w' hC => words_Join.calls A0 c0 L J w' hC hc0 hjf)
            have HBACK := Lib.hid (hback hblk.1 hblk.2)
            clear hc hjf hj256 hback hJ hbJ hblk
            by_cases he : J.size = 0
            · have hs0 : J.toList = [] := List.eq_nil_of_length_eq_zero (by rw [toList_data]; simpa using he)
              clear he
              go_wp2_with (first | (go_at_call 11; refine (HJC.out _ (Kd.C_below HR0.out HIB.out)).mono ?_; rintro e w1 ⟨rfl, hb1⟩; have HB1 := Lib.hid (HIB.out.trans (hb1.mono HIB.out.size)); clear hb1) | (go_at_call 10; refine (HA.out _).mono ?_; rintro e w2 ⟨rfl, hb2⟩; have HB2 := Lib.hid (HB1.out.trans (hb2.mono HB1.out.size)); clear hb2))
              go_ret
              exact ⟨rfl, HB2.out⟩
            · have hne0 : bl J ≠ [] := fun h => he (by have := bl_len J; rw [h] at this; exact this.symm)
              have hs0 : J.toList.isEmpty = false := by
                rw [toList_data]
                cases h : J.data.toList with
                | nil => exact absurd h hne0
                | cons a r => rfl
              have hs1 : ¬ J.toList = [] := by rw [toList_data]; exact hne0
              have HNE := Lib.hid hne0
              clear he hne0
              by_cases hbig : 256 < J.size + ah.size + be.size
              · have q1 : (256 : Int) < (J.size : Int) + (ah.size : Int) + (be.size : Int) := by omega
                clear hbig
                go_wp2_with (first | (go_at_call 11; refine (HJC.out _ (Kd.C_below HR0.out HIB.out)).mono ?_; rintro e w1 ⟨rfl, hb1⟩; have HB1 := Lib.hid (HIB.out.trans (hb1.mono HIB.out.size)); clear hb1) | (go_at_call 10; refine (HA.out _).mono ?_; rintro e w2 ⟨rfl, hb2⟩; have HB2 := Lib.hid (HB1.out.trans (hb2.mono HB1.out.size)); clear hb2))
                go_ret
                exact ⟨rfl, HB2.out⟩
              · have q1 : ¬ (256 : Int) < (J.size : Int) + (ah.size : Int) + (be.size : Int) := by omega
                have hsp := HBACK.out HNE.out (by simp only [List.length_append, bl_len]; omega)
                have hbT : bl (ah ++ J ++ be) = bl ah ++ bl J ++ bl be := by rw [bl_app, bl_app]
                have hSP := fun w => split_call (ah ++ J ++ be) w
                rw [hbT, hsp] at hSP
                simp only [ba_map_bl, List.length_append, bl_len] at hSP
                have HSP := Lib.hid hSP
                have HSA := Lib.hid (fun A0 A1 c0 c1 w => same_call L (by omega) A0 A1 c0 c1 w)
                have n1 : ¬ 9223372036854775807 < ah.size + J.size := by omega
                have n2 : ¬ 9223372036854775807 < ah.size + J.size + be.size := by omega
                clear hsp hbT hSP hbig
                go_wp2_with (first | (go_at_call 11; refine (HJC.out _ (Kd.C_below HR0.out HIB.out)).mono ?_; rintro e w1 ⟨rfl, hb1⟩; have HB1 := Lib.hid (HIB.out.trans (hb1.mono HIB.out.size)); clear hb1) |
                  (go_at_call 13; refine (HSP.out _).mono ?_; rintro e w2 ⟨A2, c2, rfl, hlc2, hC2, hb2⟩; have HB2 := Lib.hid (HB1.out.trans (hb2.mono HB1.out.size)); have HC2 := Lib.hid hC2; have HLC2 := Lib.hid hlc2; clear hb2 hC2 hlc2) |
                  (go_at_call 10; refine (HA.out _).mono ?_; rintro e w3 ⟨rfl, hb3⟩; have HC3 := Lib.hid (Kd.C_below HC2.out hb3); have HB3 := Lib.hid (HB2.out.trans (hb3.mono HB2.out.size)); clear hb3) |
                  (go_at_call 14; refine (HSA.out _ _ _ _ _ HC3.out HLC2.out (Kd.C_below HR0.out HB3.out) hc0).mono ?_; rintro e w4 ⟨rfl, hb4⟩; have HB4 := Lib.hid (HB3.out.trans (hb4.mono HB3.out.size)); clear hb4))
                go_ret
                exact ⟨rfl, HB4.out⟩
end Go.Proofs.YtbfeokfninedcaaDoor.Ext
set_option linter.unusedVariables false
set_option linter.unusedSimpArgs false
namespace Go.Proofs.YtbfeokfninedcaaDoor.Arg
open Go.RowKit Go.ChangeShapes Go.WideShapes Go.ChangeAt Go.Proofs.YtbfeokfninedcaaDoorW.PrintWords Go.Proofs.YtbfeokfninedcaaDoorW.PrintLast
theorem weightsAll_mem {H : Type} {P : Program} {e : TypeId} : ∀ {ds : List (DataW H)} {d : DataW H} {n : Nat}, d ∈ ds → n ∈ d.weights P e → n ∈ DataW.weightsAll P e ds
  | x :: r, d, n, hd, hn => by
    rw [List.mem_cons] at hd
    rw [DataW.weightsAll, List.mem_append]
    rcases hd with rfl | hd
    · exact .inl hn
    · exact .inr (weightsAll_mem hd hn)
theorem strs_arg {H : Type} {enc : TypeId × Value → H} {w : World} {base : Nat} {sp : Nat → Bool} {held : Bool} {A0 : Option Addr} {len cap : Nat} {d : DataW H} {ps : List MemPlace} {ts : List TypeId} {ds : List (DataW H)}
    (ht : DataW.Trod enc Tryd.prog w base sp held 22 (.slice A0 len cap) d ps) (hsz : (DataW.weightsEach Tryd.prog ts ds).all (· ≤ reachBytes) = true) {j : Nat} (h1 : ts[j]? = some 22) (h2 : ds[j]? = some d) :
    ∃ l : List ByteArray, len = l.length ∧ l.length ≤ cap ∧ Kd.C Kd.string w A0 l.length l ∧ (∀ x ∈ l, x.size ≤ 140737488351232) ∧ l.length ≤ 140737488351232 := by
  obtain ⟨fuel, hf⟩ := ht
  rcases open_strings Tryd.underlying22 Tryd.underlying9 (by kernel_rfl) hf with ⟨hcs, _⟩ | ⟨a, len', cap', ss, hcs, hb, hlc, hm, hsl, hx, hcell, hss⟩
  · simp [Value.cells] at hcs
    obtain ⟨rfl, rfl, rfl⟩ := hcs
    exact ⟨[], rfl, Nat.le_refl _, ⟨rfl, by simp, fun h => by simp at h⟩, (fun x hx => by cases hx), by simp⟩
  · simp [Value.cells] at hcs
    obtain ⟨rfl, rfl, rfl⟩ := hcs
    obtain ⟨rfl, _⟩ := Prod.mk.injEq _ _ _ _ ▸ hx
    have hle : len ≤ ss.length := by rw [hsl]; split <;> omega
    have hl : (ss.take len).length = len := by rw [List.length_take]; omega
    have hw := fun n hn => List.all_eq_true.1 hsz n (DataW.weights_mem_each h1 h2 n hn)
    have hreach : reachBytes = 140737488351232 := rfl
    refine ⟨ss.take len, hl.symm, by rw [hl]; exact hlc, ⟨rfl, by rw [hl]; unfold maxLen at hm; omega, fun hp => ⟨a, rfl, fun j p hj => ?_⟩⟩, fun x hx => ?_, ?_⟩
    · have hjl : j < len := by
        rcases Nat.lt_or_ge j len with h | h
        · exact h
        · rw [List.getElem?_eq_none (by omega)] at hj; cases hj
      refine ⟨[Value.string p], rfl, rfl, fun q u hq => ?_⟩
      have hq0 : q = 0 := by
        rcases q with _ | q
        · rfl
        · simp at hq
      subst hq0
      have hu : u = Value.string p := by simpa using hq.symm
      have := hcell j (by omega)
      rw [List.getElem?_take_of_lt hjl] at hj
      rw [List.getD_eq_getElem?_getD, hj] at this
      rw [hu, show j * Kd.string.sz + 0 = j by show j * 1 + 0 = j; omega]
      exact this
    · have h3 := hw x.data.toList.length (by
        rw [DataW.weights, Tryd.underlying22]
        refine List.mem_cons_of_mem _ (List.mem_append.2 (.inl (weightsAll_mem (d := .lit (.string x.data.toList)) ?_ ?_)))
        · exact List.mem_map.2 ⟨x, hx, rfl⟩
        · simp [DataW.weights])
      simp at h3
      omega
    · have h3 := hw (((strs (ss.take len) : List (DataW H)).length + (strs (ss.drop len) : List (DataW H)).length) * Tryd.prog.bytesOf 9) (by
        rw [DataW.weights, Tryd.underlying22]
        exact List.mem_cons_self)
      have hb16 : Tryd.prog.bytesOf 9 = 16 := by kernel_rfl
      rw [hb16] at h3
      simp [strs] at h3
      rw [hl]
      omega
end Go.Proofs.YtbfeokfninedcaaDoor.Arg
namespace Go.Proofs.YtbfeokfninedcaaDoor.wordsBack
open Go.ChangeShapes Go.WideShapes Go.ChangeAt Go.RowKit
open Go.ChangeMaps (open_string shut_string)
set_option linter.unusedVariables false
theorem own : ownKnob Tryd.prog.godebug = none := by kernel_rfl
theorem laidOut : laidOutB Tryd.prog = true := by kernel_rfl
theorem door_met (os : Os) (args : Array Value) : laidMetH Tryd.prog Rows.wordsBackRow.laid ((World.laidAll Tryd.prog os Rows.wordsBackRow.laid).forCall (fun _ _ => 0) ⟨#[], args, []⟩).memory :=
  by rw [MakeChecks.laidMetH_plain _ _ _ (by kernel_rfl)]; exact laidMet_laidAll args (by kernel_rfl) (by kernel_rfl)
set_option maxRecDepth 100000 in
theorem lifted (os : Os) (started : os.Started) (H : Type) (enc : TypeId × Value → H) :
    ReturnsInHanded {} Tryd.checked os 4 .any (fun w args => (Rows.wordsBackSpec.pre enc Tryd.prog Tryd.f4 [] false w args ∧ laidMetH Tryd.prog Rows.wordsBackRow.laid w) ∧ sizedMet enc Tryd.prog Tryd.f4 (OpenSpec.ofChange Rows.wordsBackSpec) false w args) (Rows.wordsBackSpec.post enc Tryd.prog Tryd.f4 false true false false) := by
  refine returnsInHanded_of_change_and (C := Tryd.checked) (X := fun w _ => laidMetH Tryd.prog Rows.wordsBackRow.laid w) (fun _ _ _ hh h => h.of_heap hh) own started (by kernel_rfl) Tryd.func4
    (ChangeSpec.witness_shaped (enc := enc) (C := Tryd.checked) (os := os) (X := fun w _ => laidMetH Tryd.prog Rows.wordsBackRow.laid w) false (World.laidAll Tryd.prog os Rows.wordsBackRow.laid) #[.slice none 0 0, .string ByteArray.empty, .string ByteArray.empty] 8 rfl (World.shaped_of_RefB (by kernel_rfl) (by kernel_rfl)) (by kernel_rfl) (by kernel_rfl) (by kernel_rfl) (door_met os _)) ?_
  intro W base args ds gs before hval0 hW hcnd hsz0 _ _
  have hsz : (DataW.weightsEach Tryd.prog (Tryd.f4.params.toList ++ Rows.wordsBackSpec.plain.varTypes Tryd.prog) (ds ++ gs)).all (· ≤ reachBytes) = true := hsz0
  have hval : ∀ (j : Nat) t v, Tryd.f4.params[j]? = some t → args[j]? = some v → Value.okWide Tryd.prog W .any base t v := hval0
  have hW' := hW
  obtain ⟨p, q, hA0, hV, rfl, hfz, hnd⟩ := hW
  have hA : DataW.TrodAll enc Tryd.prog W 0 (fun _ => true) true Tryd.f4.params.toList args.toList ds p := hA0
  rw [Tryd.params4] at hA hval hsz
  obtain ⟨v0, vs0, d0, ds0, p0, q0, hargs, rfl, rfl, h0, r0'⟩ := trodAll_cons hA
  obtain ⟨v1, vs1, d1, ds1, p1, q1, rfl, rfl, rfl, h1, r1'⟩ := trodAll_cons r0'
  obtain ⟨v2, vs2, d2, ds2, p2, q2, rfl, rfl, rfl, h2, r2'⟩ := trodAll_cons r1'
  obtain ⟨rfl, rfl, rfl⟩ := trodAll_nil r2'
  obtain rfl : args = #[v0, v1, v2] := by cases args; simp_all
  obtain ⟨rfl, rfl⟩ := trodVars_none hV
  have k0 := h0
  have lt0 : ∀ x ∈ p0, x.block < W.heap.size := by obtain ⟨m, hm⟩ := k0; exact DataW.trod_lt m _ _ _ hm
  obtain ⟨A0, len0, cp0, rfl⟩ := okWide_slice Tryd.underlying22 (hval 0 22 v0 rfl rfl)
  obtain ⟨l0, rfl, hc0, r0, m0, g0⟩ := Arg.strs_arg h0 hsz (j := 0) rfl rfl
  obtain ⟨s1, rfl, rfl, rfl, y1⟩ := open_string Tryd.underlying9 (hval 1 9 v1 rfl rfl) h1
  have z1 : s1.size ≤ 140737488351232 := by
    have z := sized_string hsz (j := 1) (t := 9) rfl rfl
    rw [Array.length_toList] at z
    exact z
  obtain ⟨s2, rfl, rfl, rfl, y2⟩ := open_string Tryd.underlying9 (hval 2 9 v2 rfl rfl) h2
  have z2 : s2.size ≤ 140737488351232 := by
    have z := sized_string hsz (j := 2) (t := 9) rfl rfl
    rw [Array.length_toList] at z
    exact z
  clear hA0 hval0 hsz0 hsz
  refine (Ext.back_law l0 g0 m0 A0 cp0 s1 s2 z1 z2 W r0 hc0).mono fun e W' ⟨he, bel⟩ => ?_
  subst he
  exact ⟨_, rfl, _, _, _, [], _, [], hW', trodAll_mk1 (shut_bool Tryd.underlying4 _), (trodAll_cons_mk (Below.trod laidOut (by kernel_rfl) (of_decide_eq_true (by kernel_rfl)) k0 bel lt0) (trodAll_cons_mk (shut_string Tryd.underlying9 y1) (trodAll_cons_mk (shut_string Tryd.underlying9 y2) trodAll_mk0))), rfl, bel.frame _, fun h => by cases h⟩
theorem over : Rows.wordsBackRow.holds Tryd.pinned (OpenSpec.ofChange Rows.wordsBackSpec) :=
  OpenClaim.holds_of_wide 4 Tryd.f4 rfl rfl rfl rfl rfl rfl rfl ⟨rfl, rfl, rfl, rfl, rfl⟩ rfl rfl rfl rfl rfl (by kernel_rfl) Tryd.func4 (by kernel_rfl)
    (of_decide_eq_true (by kernel_rfl)) (by unfold Func.isWrapper; first | (rw [if_pos (by decide +kernel)]; kernel_rfl) | (rw [if_neg (by decide +kernel)]; exact ⟨rfl, rfl⟩))
    (fun os started H enc _ => lifted os started H enc)
theorem proved : Rows.WordsBackSaid := over
end Go.Proofs.YtbfeokfninedcaaDoor.wordsBack
namespace Go.Proofs.YtbfeokfninedcaaDoor
theorem wordsBack_holds : Rows.WordsBackSaid := wordsBack.proved
end Go.Proofs.YtbfeokfninedcaaDoor
namespace Go.Proofs.YtbfeokfninedcaaDoor
theorem wordsBackCard_holds : Rows.WordsBackCardSaid :=
  Claim7.holds_tied_plain_at .later [] [.data, .pinned] true (true, "41b0d8bda04e9d2707ea830320af7feaa9ccda16d244c5287053b37fa253a9f4") true
    wordsBack_holds (fun _ h => by cases h) (by kernel_rfl) (fun _ h => by cases h) wordsBack_row_tie rfl ⟨rfl, rfl⟩ (by kernel_rfl) rfl
    (fun f fn hf hfn => by
      obtain rfl : f = 4 := Option.some.inj ((show Tryd.prog.funcNamed "chicane/chicanelaw15.WordsBack" = some 4 by kernel_rfl).symm.trans hf) |>.symm
      obtain rfl : fn = Tryd.f4 := (Option.some.inj (Tryd.func4.symm.trans hfn)).symm
      exact ⟨by kernel_rfl, fun j t ht => by
        rw [Tryd.params4] at ht
        have h3 : t = 22 ∨ t = 9 ∨ t = 9 := by
          rcases j with _ | j
          · have e : t = 22 := by simpa using ht.symm
            exact Or.inl e
          rcases j with _ | j
          · have e : t = 9 := by simpa using ht.symm
            exact Or.inr (Or.inl e)
          rcases j with _ | j
          · have e : t = 9 := by simpa using ht.symm
            exact Or.inr (Or.inr (e))
          simp at ht
        rcases h3 with rfl | rfl | rfl
        · exact (show Tryd.prog.wantsStandIn 22 = false by kernel_rfl)
        · exact (show Tryd.prog.wantsStandIn 9 = false by kernel_rfl)
        · exact (show Tryd.prog.wantsStandIn 9 = false by kernel_rfl)⟩)
    (by kernel_rfl)
end Go.Proofs.YtbfeokfninedcaaDoor
