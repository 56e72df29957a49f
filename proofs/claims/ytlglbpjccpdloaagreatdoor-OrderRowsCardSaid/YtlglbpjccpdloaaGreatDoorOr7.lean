/- Gathered by a program of this session (shake.py): what the claim's theorem needs. -/
import Derived.Test.YtlglbpjccpdloaaGreatDoorOr0
import Derived.Test.YtlglbpjccpdloaaGreatDoorOr1
import Derived.Test.YtlglbpjccpdloaaGreatDoorOr2
import Derived.Test.YtlglbpjccpdloaaGreatDoorOr3
import Derived.Test.YtlglbpjccpdloaaGreatDoorOr4
import Derived.Test.YtlglbpjccpdloaaGreatDoorOr6
import Derived.Below
import Derived.Deep.Draws
import Derived.Deep.AppendLies
import Derived.Maps.AppendAt
import Derived.OwnWalk
import Derived.Laws.BytesArg
import Derived.Laws.MakeOwn
import Derived.Laws.OwnMore
import Derived.Deep.OwnRows
import Derived.Tactics
import Derived.Lib.ConvBytes
import Derived.Laws.Slices
import Derived.WalkKit
import Derived.KernelRfl
import Derived.RowKit3
import Derived.Deep.LoopGhost
import Derived.Deep.QuietTactic
import Derived.BigQuiet
import Derived.WideLaws
import Derived.Deep.DeepCutAuto
import Derived.Deep.CutBlock
import Derived.Deep.RegionHeld3
import Derived.Laws.Rows
import Derived.Lib.AppendStr
import Derived.ArgAppend
import Derived.Laws.IdiomCopy
import Derived.OrdersHeld
import Derived.Laws.BitsLemmas
import Derived.RowKit
import Derived.Test.YtlglbpjccpdloaaGreatDoorProg
import Derived.Laws.CopyOwn
import Derived.Deep.RegionLaw
set_option linter.unusedVariables false
set_option linter.unusedSimpArgs false
namespace Go.Proofs.YtlglbpjccpdloaaGreatDoor.Ext
end Go.Proofs.YtlglbpjccpdloaaGreatDoor.Ext
namespace Go.Proofs.YtlglbpjccpdloaaGreatDoor.PWrdA
end Go.Proofs.YtlglbpjccpdloaaGreatDoor.PWrdA
namespace Go.Proofs.YtlglbpjccpdloaaGreatDoor.Tox
end Go.Proofs.YtlglbpjccpdloaaGreatDoor.Tox
namespace Go.Proofs.YtlglbpjccpdloaaGreatDoor.ToxRef
end Go.Proofs.YtlglbpjccpdloaaGreatDoor.ToxRef
namespace Go.Proofs.YtlglbpjccpdloaaGreatDoor.ToxZ
end Go.Proofs.YtlglbpjccpdloaaGreatDoor.ToxZ
namespace Go.Proofs.YtlglbpjccpdloaaGreatDoorW.PrintLast
end Go.Proofs.YtlglbpjccpdloaaGreatDoorW.PrintLast
namespace Go.Proofs.YtlglbpjccpdloaaGreatDoorW.PrintMore
end Go.Proofs.YtlglbpjccpdloaaGreatDoorW.PrintMore
namespace Go.Proofs.YtlglbpjccpdloaaGreatDoorW.PrintWords
end Go.Proofs.YtlglbpjccpdloaaGreatDoorW.PrintWords
set_option linter.unusedVariables false
set_option linter.unusedSimpArgs false
namespace Go.Proofs.YtlglbpjccpdloaaGreatDoor.Ext
open Go.RowKit Go.Proofs.YtlglbpjccpdloaaGreatDoorW.PrintWords Go.Proofs.YtlglbpjccpdloaaGreatDoorW.PrintLast
structure RT (W : World) (B : Nat) : Prop where
  ex : ∃ f34 f92 tr b, W.heap[B]? = some (.cells (cB f34 f92 tr) 163 (0, 0)) ∧ Byt W f34 92 34 ∧ Byt W f92 92 92 ∧ W.ownsRow b 9 1 tr 2 [Value.string ⟨#[34]⟩, Value.string ⟨#[92]⟩]
theorem rt_of {w W : World} (h : BSt w W 0) : RT W (w.heap.size + 1) := by
  obtain ⟨f34, f92, tr, xs, hc, ho, hb, _, _, q1, q0⟩ := h.ex
  obtain ⟨hf, ys, rfl, _, hy⟩ := q1 (by omega)
  obtain rfl := hy rfl
  exact ⟨f34, f92, tr, _, hc, hf, q0 rfl, ho⟩
theorem rt_below {W W' : World} {B : Nat} (h : RT W B) (hb : Below W.heap.size W W') : RT W' B := by
  obtain ⟨f34, f92, tr, b, hc, h1, h2, ho⟩ := h.ex
  exact ⟨f34, f92, tr, b, (hb.block _ (blk_lt hc)).trans hc, byt_below h1 hb, byt_below h2 hb, pw_own_below ho hb⟩
theorem rt_set {W : World} {B : Nat} (h : RT W B) {g : Nat} {cs : Array Value} (hg : W.heap[g]? = some (.cells cs 117 (0, 0))) (j : Nat) (u : Value) : RT (W.setCell ⟨g, j, none⟩ u) B := by
  obtain ⟨f34, f92, tr, b, hc, h1, h2, ho⟩ := h.ex
  exact ⟨f34, f92, tr, b, blk_far hc (blk_ne hc hg (by decide)) _, byt_set h1 hg (by decide) j u, byt_set h2 hg (by decide) j u, own_setCell ho (own_ne ho hg (by decide)) _⟩
theorem rt_cells {W : World} {B : Nat} (h : RT W B) : ∃ x34 c34 x92 c92 t ct, W.cell? ⟨B, 34, none⟩ = some (.slice (some ⟨x34, 0, none⟩) 2 c34) ∧ W.cell? ⟨B, 92, none⟩ = some (.slice (some ⟨x92, 0, none⟩) 2 c92) ∧
    W.cell? ⟨B, 256, none⟩ = some (.slice (some ⟨t, 0, none⟩) 2 ct) ∧ W.cell? ⟨t, 0, none⟩ = some (.string ⟨#[34]⟩) ∧ W.cell? ⟨t, 1, none⟩ = some (.string ⟨#[92]⟩) ∧
    W.cell? ⟨x34, 0, none⟩ = some (.int .u8 92) ∧ W.cell? ⟨x34, 1, none⟩ = some (.int .u8 34) ∧ W.cell? ⟨x92, 0, none⟩ = some (.int .u8 92) ∧ W.cell? ⟨x92, 1, none⟩ = some (.int .u8 92) ∧
    (∀ b, b < 256 → b ≠ 34 → b ≠ 92 → W.cell? ⟨B, b, none⟩ = some (.slice none 0 0)) := by
  obtain ⟨f34, f92, tr, b, hc, ⟨x34, c34, d34, fr34, rfl, p1, p2, p3⟩, ⟨x92, c92, d92, fr92, rfl, q1, q2, q3⟩, ho⟩ := h.ex
  rcases ho.2 with ⟨_, h0⟩ | ⟨t, ct, cur, rfl, _, ht, _⟩
  · cases h0
  have o0 := ho.cells (g := t) rfl 0 (.string ⟨#[34]⟩) rfl
  have o1 := ho.cells (g := t) rfl 1 (.string ⟨#[92]⟩) rfl
  rw [add_plain] at o0 o1
  exact ⟨x34, c34, x92, c92, t, ct, (blk_cell hc 34).trans (cB_34 _ _ _), (blk_cell hc 92).trans (cB_92 _ _ _), (blk_cell hc 256).trans (cB_256 _ _ _), o0, o1,
    (cell_of_row _ _ _ _ _ _ p1).trans p2, (cell_of_row _ _ _ _ _ _ p1).trans p3, (cell_of_row _ _ _ _ _ _ q1).trans q2, (cell_of_row _ _ _ _ _ _ q1).trans q3, fun b hb h1 h2 => (blk_cell hc b).trans (cB_at _ _ _ b hb h1 h2)⟩
theorem take_snoc_b (s : ByteArray) (k : Nat) (h : k < s.size) : s.data.toList.take (k + 1) = s.data.toList.take k ++ [s[k]] := by
  rw [List.take_succ_eq_append_getElem (by simpa using h)]; rfl
def vals (l : List UInt8) : List Value := l.map (fun c => .int .u8 (c.toNat : Int))
theorem es_take_le (l : List UInt8) (k : Nat) : (WP.es (l.take k)).length ≤ (WP.es l).length := by
  conv => rhs; rw [← List.take_append_drop k l, WP.es_append]
  rw [List.length_append]
  omega
theorem es_step (s : ByteArray) (k : Nat) (h : k < s.size) (c : UInt8) (hc : s[k]'h = c) : WP.es (s.data.toList.take (k + 1)) = WP.es (s.data.toList.take k) ++ (if WP.sp c = true then [92, c] else [c]) := by
  rw [take_snoc_b s k h, hc, WP.es_append, WP.es_one]
theorem take_all (s : ByteArray) : s.data.toList.take s.size = s.data.toList := List.take_of_length_le (by simp)
theorem ba_self (s : ByteArray) : (⟨s.data.toList.toArray⟩ : ByteArray) = s := by cases s; simp
theorem set_take (cur : List Value) (j : Nat) (v : Value) (h : j < cur.length) : (cur.set j v).take (j + 1) = cur.take j ++ [v] := by
  rw [List.take_succ_eq_append_getElem (by simpa using h), List.take_set_of_le (Nat.le_refl _)]
  simp
theorem splice_take (cur cs : List Value) (j : Nat) (h : j + cs.length ≤ cur.length) : (splice cur j cs).take (j + cs.length) = cur.take j ++ cs := by
  unfold splice
  rw [← List.append_assoc, List.take_append_of_le_length (by simp; omega)]
  exact List.take_of_length_le (by simp; omega)
theorem rp_info8 : (Tryz.prog.info? 5).map (fun i => (i.zero, i.size, i.bytes)) = some (some (.int .u8 0), 1, 1) := by kernel_rfl
theorem rp_size8 : (Tryz.prog.info? 5).map (·.size) = some 1 := by kernel_rfl
structure Buf (s : ByteArray) (W W2 : World) (m k j : Nat) : Prop where
  ex : ∃ cur : List Value, W2.heap[W.heap.size]? = some (.cells cur.toArray 5 (0, 0)) ∧ cur.length = m ∧ cur.take j = vals (WP.es (s.data.toList.take k))
  hj : j = (WP.es (s.data.toList.take k)).length
  bel : Below W.heap.size W W2
theorem buf_start (s : ByteArray) (W : World) (m : Nat) : Buf s W (W.alloc (.cells (madeCells #[.int .u8 0] m) 5)) m 0 0 :=
  ⟨⟨(madeCells #[.int .u8 0] m).toList, by rw [Array.toArray_toList]; exact heap_alloc_new W _, by simp [madeCells], rfl⟩, rfl, below_alloc (Below.refl _ _) _⟩
theorem buf_startN (s : ByteArray) (W : World) (m n : Nat) : Buf s W ((W.drewN n).alloc (.cells (madeCells #[.int .u8 0] m) 5)) m 0 0 :=
  ⟨⟨(madeCells #[.int .u8 0] m).toList, by rw [Array.toArray_toList]; exact heap_alloc_new (W.drewN n) _, by simp [madeCells], rfl⟩, rfl, below_alloc (pw_below_drewN (Below.refl _ _) n) _⟩
theorem buf_one {s : ByteArray} {W W2 : World} {m k j : Nat} (h : Buf s W W2 m k j) (hk : k < s.size) (c : UInt8) (hc : s[k]'hk = c) (hs : WP.sp c = false) (hm : (WP.es s.data.toList).length = m) :
    j < m ∧ (∃ v, W2.cell? ⟨W.heap.size, j, none⟩ = some v) ∧ W2.frozen? ⟨W.heap.size, j, none⟩ = false ∧ Buf s W (W2.setCell ⟨W.heap.size, j, none⟩ (.int .u8 (c.toNat : Int))) m (k + 1) (j + 1) := by
  obtain ⟨cur, hh, hl, ht⟩ := h.ex
  have he := es_step s k hk c hc
  rw [hs] at he
  simp only [Bool.false_eq_true, if_false] at he
  have hlt : j < m := by have := es_take_le s.data.toList (k + 1); rw [he, List.length_append, List.length_singleton] at this; have := h.hj; omega
  refine ⟨hlt, ⟨_, (blk_cell hh j).trans (by rw [List.getElem?_toArray, List.getElem?_eq_getElem (by omega)])⟩, blk_frozen hh j, ⟨⟨cur.set j (.int .u8 (c.toNat : Int)), ?_, by simpa using hl, ?_⟩, ?_, h.bel.setCell (Nat.le_refl _) _⟩⟩
  · have := blk_set hh j (.int .u8 (c.toNat : Int))
    rw [List.setIfInBounds_toArray] at this
    exact this
  · rw [set_take cur j _ (by omega), ht, he]
    simp [vals]
  · rw [he, h.hj]; simp
theorem buf_two {s : ByteArray} {W W2 : World} {m k j : Nat} (h : Buf s W W2 m k j) (hk : k < s.size) (c : UInt8) (hc : s[k]'hk = c) (hs : WP.sp c = true) (hm : (WP.es s.data.toList).length = m) :
    j + 2 ≤ m ∧ ∃ cur : List Value, W2.heap[W.heap.size]? = some (.cells cur.toArray 5 (0, 0)) ∧ cur.length = m ∧ ∀ w4, w4.heap[W.heap.size]? = some (.cells (splice cur j [.int .u8 92, .int .u8 (c.toNat : Int)]).toArray 5 (0, 0)) → Below W.heap.size W w4 → Buf s W w4 m (k + 1) (j + 2) := by
  obtain ⟨cur, hh, hl, ht⟩ := h.ex
  have he := es_step s k hk c hc
  rw [hs] at he
  simp only [if_true] at he
  have hlt : j + 2 ≤ m := by have := es_take_le s.data.toList (k + 1); rw [he, List.length_append] at this; simp only [List.length_cons, List.length_nil] at this; have := h.hj; omega
  refine ⟨hlt, cur, hh, hl, fun w4 h4 hb4 => ⟨⟨_, h4, by rw [length_splice _ _ _ (by simp; omega)]; exact hl, ?_⟩, ?_, hb4⟩⟩
  · rw [show j + 2 = j + [Value.int .u8 92, .int .u8 (c.toNat : Int)].length from rfl, splice_take _ _ _ (by simp; omega), ht, he]
    simp [vals]
  · rw [he, h.hj]; simp
theorem buf_end {s : ByteArray} {W W2 : World} {m j : Nat} (h : Buf s W W2 m s.size j) (hm : (WP.es s.data.toList).length = m) :
    (convert 80 9 (.slice (some ⟨W.heap.size, 0, none⟩) m m)).run Tryz.prog W2 = .ok (.string ⟨(WP.es s.data.toList).toArray⟩) W2 := by
  obtain ⟨cur, hh, hl, ht⟩ := h.ex
  have hj := h.hj
  rw [take_all] at ht hj
  have hcur : cur = vals (WP.es s.data.toList) := by rw [← ht]; exact (List.take_of_length_le (by omega)).symm
  subst hcur
  have := run_convert_bytes_arg (P := Tryz.prog) W2 80 5 Tryz.underlying80 Tryz.underlying5 W.heap.size 0 m m (by8 (WP.es s.data.toList)) (by rw [by8_len]; exact hm) (fun i hi => by
    rw [Nat.zero_add, blk_cell hh i, List.getElem?_toArray]
    simp only [vals, by8, List.getElem?_map, List.getD_eq_getElem?_getD]
    rw [List.getElem?_eq_getElem (by omega)]
    simp) 9 Tryz.underlying9
  rw [str_ba] at this
  exact this
set_option maxRecDepth 100000 in
set_option maxHeartbeats 8000000 in
theorem rep_small (W : World) (B : Nat) (hT : RT W B) (s : ByteArray) (hs : s.size ≤ 2000) (h16 : ¬ 16 ≤ s.size) :
    Calls Tryz.prog 184 #[.pointer (some ⟨B, 0, none⟩), .string s] W fun e w' => e = .returned (.string ⟨(WP.es s.data.toList).toArray⟩) ∧ Below W.heap.size W w' := by
  obtain ⟨x34, c34, x92, c92, t, ct, k34, k92, k256, kt0, kt1, k1, k2, k3, k4, kn⟩ := rt_cells hT
  have hBW : B < W.heap.size := World.block_lt_of_cell? _ _ k34
  have hX34 : x34 < W.heap.size := World.block_lt_of_cell? _ _ k1
  have hX92 : x92 < W.heap.size := World.block_lt_of_cell? _ _ k3
  have qN : ∀ (w : World) (a : Option Addr) (n c n' c' : Nat), (binOp .neq 80 (.slice a n c) (.slice none n' c')).run Tryz.prog w = .ok (.bool (!a.isNone)) w := fun w a n c n' c' => run_neq_slice_nil_any w _ _ a n c n' c' Tryz.underlying80
  have HN := Lib.hid kn
  clear kn hT
  have hd : decide (16 ≤ (s.size : Int)) = false := by simp; omega
  go_enter Tryz.func184, Tryz.ntmps184
  go_wp2_with fail
  go_loopg [5, 6, 10] s.size (fun g v5 v6 v10 W2 => W = W2 ∧ ∃ k m : Nat, g = s.size - k ∧ k ≤ s.size ∧ v10 = .int .i64 k ∧ v5 = .int .i64 m ∧ v6 = .bool (decide (0 < WP.cn (s.data.toList.take k))) ∧ m = s.size + WP.cn (s.data.toList.take k))
  case atStart => exact ⟨rfl, 0, s.size, by omega, by omega, rfl, rfl, rfl, by simp [WP.cn]⟩
  case round =>
    obtain ⟨rfl, k, m, hg, hk, rfl, rfl, rfl, hm⟩ := hrel
    have HG := Lib.hid hg
    have HM := Lib.hid hm
    have hm40 : m ≤ 4000 := by have := WP.cn_le (s.data.toList.take k); rw [List.length_take] at this; omega
    clear hg hm
    by_cases hk2 : k < s.size
    · obtain ⟨c, hc⟩ : ∃ c, s[k]'hk2 = c := ⟨_, rfl⟩
      have hts := take_snoc_b s k hk2
      rw [hc] at hts
      have hcn : WP.cn (s.data.toList.take (k + 1)) = WP.cn (s.data.toList.take k) + (if WP.sp c = true then 1 else 0) := by rw [hts, WP.cn_snoc]
      have hc256 : c.toNat < 256 := c.toNat_lt
      cases hs : WP.sp c
      · obtain ⟨n34, n92⟩ : c.toNat ≠ 34 ∧ c.toNat ≠ 92 := by simpa [WP.sp] using hs
        have dn := HN.out _ hc256 n34 n92
        rw [hs] at hcn
        have HCN := Lib.hid hcn
        clear hs n34 n92 hcn hts
        go_wp2_with fail
        go_roundg (s.size - (k + 1))
        case measure => have := HG.out; omega
        case rel => exact ⟨rfl, k + 1, m, rfl, by omega, rfl, rfl, by rw [HCN.out]; rfl, by rw [HCN.out]; exact HM.out⟩
      · have hcc : c.toNat = 34 ∨ c.toNat = 92 := (WP.sp_iff c).1 hs
        rw [hs] at hcn
        have HCN := Lib.hid hcn
        clear hs hcn hts
        rcases hcc with h34 | h92
        · have kx : W.cell? ⟨B, c.toNat, none⟩ = some (.slice (some ⟨x34, 0, none⟩) 2 c34) := by rw [h34]; exact k34
          clear h34
          go_wp2_with fail
          go_roundg (s.size - (k + 1))
          case measure => have := HG.out; omega
          case rel => exact ⟨rfl, k + 1, m + 1, rfl, by omega, rfl, rfl, by rw [HCN.out]; simp, by rw [HCN.out, HM.out]; rfl⟩
        · have kx : W.cell? ⟨B, c.toNat, none⟩ = some (.slice (some ⟨x92, 0, none⟩) 2 c92) := by rw [h92]; exact k92
          clear h92
          go_wp2_with fail
          go_roundg (s.size - (k + 1))
          case measure => have := HG.out; omega
          case rel => exact ⟨rfl, k + 1, m + 1, rfl, by omega, rfl, rfl, by rw [HCN.out]; simp, by rw [HCN.out, HM.out]; rfl⟩
    · have hkE : k = s.size := by omega
      subst hkE
      have hm := HM.out
      rw [take_all] at hm
      have hml : (WP.es s.data.toList).length = m := by rw [WP.es_len, hm]; try simp
      have HML := Lib.hid hml
      clear hml
      by_cases hz : WP.cn s.data.toList = 0
      · have hdz : decide (0 < WP.cn (List.take s.size s.data.toList)) = false := by rw [take_all, hz]; rfl
        have hsame : (⟨(WP.es s.data.toList).toArray⟩ : ByteArray) = s := by rw [WP.es_none _ hz]
        have HSAME := Lib.hid hsame
        clear hsame hz hm
        go_wp2_with fail
        go_ret
        have hfin : Ending.returned (.string s) = Ending.returned (.string ⟨(WP.es s.data.toList).toArray⟩) := by rw [HSAME.out]
        exact ⟨hfin, Below.refl _ _⟩
      · have hdz : decide (0 < WP.cn (List.take s.size s.data.toList)) = true := by rw [take_all]; first | (simp; done) | (simp; omega)
        have hmk := print_make (P := Tryz.prog) 80 5 .u8 1 Tryz.underlying80 rp_info8 (by decide) m (by omega)
        clear hz hm
        go_wp2_with fail
        clear hmk hdz
        go_loopg [13, 14] s.size (fun g v13 v14 W2 => ∃ k j : Nat, g = s.size - k ∧ k ≤ s.size ∧ v14 = .int .i64 k ∧ v13 = .int .i64 j ∧ Buf s W W2 m k j)
        case atStart => exact ⟨0, 0, by omega, by omega, rfl, rfl, buf_start s W m⟩
        case round =>
          obtain ⟨k, j, hg, hk, rfl, rfl, hB⟩ := hrel
          have HG := Lib.hid hg
          have hbl := hB.bel
          have d34 := (hbl.cell (p := ⟨B, 34, none⟩) hBW).trans k34
          have d92 := (hbl.cell (p := ⟨B, 92, none⟩) hBW).trans k92
          have d1 := (hbl.cell (p := ⟨x34, 0, none⟩) hX34).trans k1
          have d2 := (hbl.cell (p := ⟨x34, 1, none⟩) hX34).trans k2
          have d3 := (hbl.cell (p := ⟨x92, 0, none⟩) hX92).trans k3
          have d4 := (hbl.cell (p := ⟨x92, 1, none⟩) hX92).trans k4
          have hj40 : j ≤ 4000 := by have := es_take_le s.data.toList k; have := hB.hj; have := HML.out; omega
          have HBL := Lib.hid hbl
          have HB := Lib.hid hB
          clear hg hbl hB
          by_cases hk2 : k < s.size
          · obtain ⟨c, hc⟩ : ∃ c, s[k]'hk2 = c := ⟨_, rfl⟩
            have hc256 : c.toNat < 256 := c.toNat_lt
            cases hs : WP.sp c
            · obtain ⟨n34, n92⟩ : c.toNat ≠ 34 ∧ c.toNat ≠ 92 := by simpa [WP.sp] using hs
              have dn := (HBL.out.cell (p := ⟨B, c.toNat, none⟩) hBW).trans (HN.out _ hc256 n34 n92)
              obtain ⟨hjm, ⟨v, e1⟩, e2, hnext⟩ := buf_one HB.out hk2 c hc hs HML.out
              have HX := Lib.hid hnext
              clear hs n34 n92 hnext
              go_wp2_with fail
              go_roundg (s.size - (k + 1))
              case measure => have := HG.out; omega
              case rel => exact ⟨k + 1, j + 1, rfl, by omega, rfl, rfl, HX.out⟩
            · have hcc : c.toNat = 34 ∨ c.toNat = 92 := (WP.sp_iff c).1 hs
              obtain ⟨hjm, cur, hcur, hcl, hnext⟩ := buf_two HB.out hk2 c hc hs HML.out
              have HX := Lib.hid hnext
              have HCU := Lib.hid hcur
              have HCL := Lib.hid hcl
              clear hs hnext hcur hcl
              have hj1 : j ≤ m := by omega
              have hj2 : ¬ m = j := by omega
              have hci : (c.toNat : Int) < 256 := by omega
              rcases hcc with h34 | h92
              · have kx : wr.cell? ⟨B, c.toNat, none⟩ = some (.slice (some ⟨x34, 0, none⟩) 2 c34) := by rw [h34]; exact d34
                have HE := Lib.hid h34
                clear h34
                go_wp2_with fail
                go_region_law (refine step_copy_splice rfl (.tmp 105) (.tmp 111) 80 80 rfl 5 Tryz.underlying80 rp_size8 (some ⟨W.heap.size, j, none⟩) (some ⟨x34, 0, none⟩) (m - j) (m - j) 2 c34 rfl rfl W.heap.size j cur 5 HCU.out [.int .u8 92, .int .u8 34] (by show 2 = Nat.min 2 (m - j); simp only [Nat.min_def]; split <;> omega) (fun _ => ⟨rfl, _, rfl, fun i v hi => by match i, hi with | 0, hi => cases hi; rw [add_plain]; exact d1 | 1, hi => cases hi; rw [add_plain]; exact d2⟩) (by simp; have := HCL.out; omega) (by simp [Value.oneCell']) W.heap.size W HBL.out.drew (Nat.le_refl _) ?_; intro w4 hg4 hb4)
                go_wp2_with fail
                go_roundg (s.size - (k + 1))
                case measure => have := HG.out; omega
                case rel => exact ⟨k + 1, j + 2, rfl, by omega, rfl, rfl, HX.out _ (by rw [HE.out]; exact hg4.out) hb4⟩
              · have kx : wr.cell? ⟨B, c.toNat, none⟩ = some (.slice (some ⟨x92, 0, none⟩) 2 c92) := by rw [h92]; exact d92
                have HE := Lib.hid h92
                clear h92
                go_wp2_with fail
                go_region_law (refine step_copy_splice rfl (.tmp 105) (.tmp 111) 80 80 rfl 5 Tryz.underlying80 rp_size8 (some ⟨W.heap.size, j, none⟩) (some ⟨x92, 0, none⟩) (m - j) (m - j) 2 c92 rfl rfl W.heap.size j cur 5 HCU.out [.int .u8 92, .int .u8 92] (by show 2 = Nat.min 2 (m - j); simp only [Nat.min_def]; split <;> omega) (fun _ => ⟨rfl, _, rfl, fun i v hi => by match i, hi with | 0, hi => cases hi; rw [add_plain]; exact d3 | 1, hi => cases hi; rw [add_plain]; exact d4⟩) (by simp; have := HCL.out; omega) (by simp [Value.oneCell']) W.heap.size W HBL.out.drew (Nat.le_refl _) ?_; intro w4 hg4 hb4)
                go_wp2_with fail
                go_roundg (s.size - (k + 1))
                case measure => have := HG.out; omega
                case rel => exact ⟨k + 1, j + 2, rfl, by omega, rfl, rfl, HX.out _ (by rw [HE.out]; exact hg4.out) hb4⟩
          · obtain rfl : k = s.size := by omega
            have hcv := buf_end HB.out HML.out
            go_wp2_with fail
            go_ret
            exact ⟨rfl, HBL.out⟩
theorem count_cn (s : ByteArray) : WP.cn (s.data.toList.take s.size) = Lib.countByte s.data.toList 34 + Lib.countByte s.data.toList 92 := by
  rw [take_all, WP.cn_count]
  rfl
theorem count_le (s : ByteArray) (c : UInt8) : Lib.countByte s.data.toList c ≤ s.size := by
  have h : s.data.toList.count c ≤ s.data.toList.length := List.count_le_length
  exact h
set_option maxRecDepth 100000 in
set_option maxHeartbeats 8000000 in
theorem rep_big (W : World) (B : Nat) (hT : RT W B) (s : ByteArray) (hs : s.size ≤ 2000) (h16 : 16 ≤ s.size) :
    Calls Tryz.prog 184 #[.pointer (some ⟨B, 0, none⟩), .string s] W fun e w' => e = .returned (.string ⟨(WP.es s.data.toList).toArray⟩) ∧ Below W.heap.size W w' := by
  obtain ⟨x34, c34, x92, c92, t, ct, k34, k92, k256, kt0, kt1, k1, k2, k3, k4, kn⟩ := rt_cells hT
  have hBW : B < W.heap.size := World.block_lt_of_cell? _ _ k34
  have hX34 : x34 < W.heap.size := World.block_lt_of_cell? _ _ k1
  have hX92 : x92 < W.heap.size := World.block_lt_of_cell? _ _ k3
  have qN : ∀ (w : World) (a : Option Addr) (n c n' c' : Nat), (binOp .neq 80 (.slice a n c) (.slice none n' c')).run Tryz.prog w = .ok (.bool (!a.isNone)) w := fun w a n c n' c' => run_neq_slice_nil_any w _ _ a n c n' c' Tryz.underlying80
  have HN := Lib.hid kn
  clear kn hT
  have hix : ∀ h, ((⟨#[34]⟩ : ByteArray)[0]'h).toNat = 34 := fun _ => rfl
  have hiy : ∀ h, ((⟨#[92]⟩ : ByteArray)[0]'h).toNat = 92 := fun _ => rfl
  have hd : decide (16 ≤ (s.size : Int)) = true := by simp; omega
  have C34 := fun w => (Tryz.strings_Count_one s 34 w).mono (fun e w' (h : _ ∧ w' = w) => And.intro h.1 h.2.symm)
  have C92 := fun w => (Tryz.strings_Count_one s 92 w).mono (fun e w' (h : _ ∧ w' = w) => And.intro h.1 h.2.symm)
  have hcc := count_cn s
  have hl34 := count_le s 34
  have hl92 := count_le s 92
  generalize Lib.countByte s.data.toList 34 = n34 at C34 hcc hl34
  generalize Lib.countByte s.data.toList 92 = n92 at C92 hcc hl92
  have HC34 := Lib.hid C34
  have HC92 := Lib.hid C92
  have HCC := Lib.hid hcc
  clear C34 C92 hcc
  go_enter Tryz.func184, Tryz.ntmps184
  go_wp2_with fail
  go_loopg [5, 6, 32] 2 (fun g v5 v6 v32 W2 => (∃ nd, W2 = W.drewN nd) ∧ ((g = 2 ∧ v32 = .int .i64 0 ∧ v5 = .int .i64 s.size ∧ v6 = .bool false) ∨ (g = 1 ∧ v32 = .int .i64 1 ∧ ∃ m : Nat, v5 = .int .i64 m ∧ m = s.size + n34 ∧ v6 = .bool (decide (0 < n34))) ∨
    (g = 0 ∧ v32 = .int .i64 2 ∧ ∃ m : Nat, v5 = .int .i64 m ∧ m = s.size + WP.cn (s.data.toList.take s.size) ∧ v6 = .bool (decide (0 < WP.cn (s.data.toList.take s.size))))))
  case atStart => exact ⟨⟨0, rfl⟩, .inl ⟨rfl, rfl, rfl, rfl⟩⟩
  case round =>
    obtain ⟨⟨nd, rfl⟩, ⟨rfl, rfl, rfl, rfl⟩ | ⟨rfl, rfl, m, rfl, hm, rfl⟩ | ⟨rfl, rfl, m, rfl, hm, rfl⟩⟩ := hrel
    · by_cases hz : n34 = 0
      · subst hz
        go_wp2_with (go_at_call 111; refine (HC34.out _).mono ?_; rintro e w1 ⟨rfl, rfl⟩)
        go_roundg 1
        case measure => omega
        case rel => exact ⟨⟨nd, rfl⟩, .inr (.inl ⟨rfl, rfl, s.size, rfl, rfl, rfl⟩)⟩
      · have hz1 : ((n34 : Int) != 0) = true := by simp; omega
        clear hz
        go_wp2_with (go_at_call 111; refine (HC34.out _).mono ?_; rintro e w1 ⟨rfl, rfl⟩)
        go_quiet (fail)
        go_wp2_with fail
        go_roundg 1
        case measure => omega
        case rel => exact ⟨⟨nd + nq, rfl⟩, .inr (.inl ⟨rfl, rfl, s.size + n34, rfl, rfl, by congr 1; symm; simp; have := hz1; simp at this; omega⟩)⟩
    · have HM0 := Lib.hid hm
      have hm40 : m ≤ 4000 := by omega
      clear hm
      by_cases hz : n92 = 0
      · subst hz
        go_wp2_with (go_at_call 111; refine (HC92.out _).mono ?_; rintro e w1 ⟨rfl, rfl⟩)
        go_roundg 0
        case measure => omega
        case rel => exact ⟨⟨nd, rfl⟩, .inr (.inr ⟨rfl, rfl, m, rfl, by rw [HCC.out]; exact HM0.out, by rw [HCC.out]; rfl⟩)⟩
      · have hz1 : ((n92 : Int) != 0) = true := by simp; omega
        clear hz
        go_wp2_with (go_at_call 111; refine (HC92.out _).mono ?_; rintro e w1 ⟨rfl, rfl⟩)
        go_quiet (fail)
        go_wp2_with fail
        go_roundg 0
        case measure => omega
        case rel => exact ⟨⟨nd + nq, rfl⟩, .inr (.inr ⟨rfl, rfl, m + n92, rfl, by rw [HCC.out, HM0.out]; omega, by rw [HCC.out]; congr 1; symm; simp; have := hz1; simp at this; omega⟩)⟩
    · have HM := Lib.hid hm
      have hm40 : m ≤ 4000 := by have := WP.cn_le (s.data.toList.take s.size); rw [List.length_take] at this; omega
      clear hm
      have hm := HM.out
      rw [take_all] at hm
      have hml : (WP.es s.data.toList).length = m := by rw [WP.es_len, hm]; try simp
      have HML := Lib.hid hml
      clear hml
      by_cases hz : WP.cn s.data.toList = 0
      · have hdz : decide (0 < WP.cn (List.take s.size s.data.toList)) = false := by rw [take_all, hz]; rfl
        have hsame : (⟨(WP.es s.data.toList).toArray⟩ : ByteArray) = s := by rw [WP.es_none _ hz]
        have HSAME := Lib.hid hsame
        clear hsame hz hm
        go_wp2_with fail
        go_ret
        have hfin : Ending.returned (.string s) = Ending.returned (.string ⟨(WP.es s.data.toList).toArray⟩) := by rw [HSAME.out]
        exact ⟨hfin, pw_below_drewN (Below.refl _ _) nd⟩
      · have hdz : decide (0 < WP.cn (List.take s.size s.data.toList)) = true := by rw [take_all]; first | (simp; done) | (simp; omega)
        have hmk := print_make (P := Tryz.prog) 80 5 .u8 1 Tryz.underlying80 rp_info8 (by decide) m (by omega)
        clear hz hm
        go_wp2_with fail
        clear hmk hdz
        go_loopg [13, 14] s.size (fun g v13 v14 W2 => ∃ k j : Nat, g = s.size - k ∧ k ≤ s.size ∧ v14 = .int .i64 k ∧ v13 = .int .i64 j ∧ Buf s W W2 m k j)
        case atStart => exact ⟨0, 0, by omega, by omega, rfl, rfl, buf_startN s W m nd⟩
        case round =>
          obtain ⟨k, j, hg, hk, rfl, rfl, hB⟩ := hrel
          have HG := Lib.hid hg
          have hbl := hB.bel
          have d34 := (hbl.cell (p := ⟨B, 34, none⟩) hBW).trans k34
          have d92 := (hbl.cell (p := ⟨B, 92, none⟩) hBW).trans k92
          have d1 := (hbl.cell (p := ⟨x34, 0, none⟩) hX34).trans k1
          have d2 := (hbl.cell (p := ⟨x34, 1, none⟩) hX34).trans k2
          have d3 := (hbl.cell (p := ⟨x92, 0, none⟩) hX92).trans k3
          have d4 := (hbl.cell (p := ⟨x92, 1, none⟩) hX92).trans k4
          have hj40 : j ≤ 4000 := by have := es_take_le s.data.toList k; have := hB.hj; have := HML.out; omega
          have HBL := Lib.hid hbl
          have HB := Lib.hid hB
          clear hg hbl hB
          by_cases hk2 : k < s.size
          · obtain ⟨c, hc⟩ : ∃ c, s[k]'hk2 = c := ⟨_, rfl⟩
            have hc256 : c.toNat < 256 := c.toNat_lt
            cases hs : WP.sp c
            · obtain ⟨n34, n92⟩ : c.toNat ≠ 34 ∧ c.toNat ≠ 92 := by simpa [WP.sp] using hs
              have dn := (HBL.out.cell (p := ⟨B, c.toNat, none⟩) hBW).trans (HN.out _ hc256 n34 n92)
              obtain ⟨hjm, ⟨v, e1⟩, e2, hnext⟩ := buf_one HB.out hk2 c hc hs HML.out
              have HX := Lib.hid hnext
              clear hs n34 n92 hnext
              go_wp2_with fail
              go_roundg (s.size - (k + 1))
              case measure => have := HG.out; omega
              case rel => exact ⟨k + 1, j + 1, rfl, by omega, rfl, rfl, HX.out⟩
            · have hcc : c.toNat = 34 ∨ c.toNat = 92 := (WP.sp_iff c).1 hs
              obtain ⟨hjm, cur, hcur, hcl, hnext⟩ := buf_two HB.out hk2 c hc hs HML.out
              have HX := Lib.hid hnext
              have HCU := Lib.hid hcur
              have HCL := Lib.hid hcl
              clear hs hnext hcur hcl
              have hj1 : j ≤ m := by omega
              have hj2 : ¬ m = j := by omega
              have hci : (c.toNat : Int) < 256 := by omega
              rcases hcc with h34 | h92
              · have kx : wr.cell? ⟨B, c.toNat, none⟩ = some (.slice (some ⟨x34, 0, none⟩) 2 c34) := by rw [h34]; exact d34
                have HE := Lib.hid h34
                clear h34
                go_wp2_with fail
                go_region_law (refine step_copy_splice rfl (.tmp 105) (.tmp 111) 80 80 rfl 5 Tryz.underlying80 rp_size8 (some ⟨W.heap.size, j, none⟩) (some ⟨x34, 0, none⟩) (m - j) (m - j) 2 c34 rfl rfl W.heap.size j cur 5 HCU.out [.int .u8 92, .int .u8 34] (by show 2 = Nat.min 2 (m - j); simp only [Nat.min_def]; split <;> omega) (fun _ => ⟨rfl, _, rfl, fun i v hi => by match i, hi with | 0, hi => cases hi; rw [add_plain]; exact d1 | 1, hi => cases hi; rw [add_plain]; exact d2⟩) (by simp; have := HCL.out; omega) (by simp [Value.oneCell']) W.heap.size W HBL.out.drew (Nat.le_refl _) ?_; intro w4 hg4 hb4)
                go_wp2_with fail
                go_roundg (s.size - (k + 1))
                case measure => have := HG.out; omega
                case rel => exact ⟨k + 1, j + 2, rfl, by omega, rfl, rfl, HX.out _ (by rw [HE.out]; exact hg4.out) hb4⟩
              · have kx : wr.cell? ⟨B, c.toNat, none⟩ = some (.slice (some ⟨x92, 0, none⟩) 2 c92) := by rw [h92]; exact d92
                have HE := Lib.hid h92
                clear h92
                go_wp2_with fail
                go_region_law (refine step_copy_splice rfl (.tmp 105) (.tmp 111) 80 80 rfl 5 Tryz.underlying80 rp_size8 (some ⟨W.heap.size, j, none⟩) (some ⟨x92, 0, none⟩) (m - j) (m - j) 2 c92 rfl rfl W.heap.size j cur 5 HCU.out [.int .u8 92, .int .u8 92] (by show 2 = Nat.min 2 (m - j); simp only [Nat.min_def]; split <;> omega) (fun _ => ⟨rfl, _, rfl, fun i v hi => by match i, hi with | 0, hi => cases hi; rw [add_plain]; exact d3 | 1, hi => cases hi; rw [add_plain]; exact d4⟩) (by simp; have := HCL.out; omega) (by simp [Value.oneCell']) W.heap.size W HBL.out.drew (Nat.le_refl _) ?_; intro w4 hg4 hb4)
                go_wp2_with fail
                go_roundg (s.size - (k + 1))
                case measure => have := HG.out; omega
                case rel => exact ⟨k + 1, j + 2, rfl, by omega, rfl, rfl, HX.out _ (by rw [HE.out]; exact hg4.out) hb4⟩
          · obtain rfl : k = s.size := by omega
            have hcv := buf_end HB.out HML.out
            go_wp2_with fail
            go_ret
            exact ⟨rfl, HBL.out⟩
theorem rep_any (W : World) (B : Nat) (hT : RT W B) (s : ByteArray) (hs : s.size ≤ 2000) :
    Calls Tryz.prog 184 #[.pointer (some ⟨B, 0, none⟩), .string s] W fun e w' => e = .returned (.string ⟨(WP.es s.data.toList).toArray⟩) ∧ Below W.heap.size W w' := by
  by_cases h : 16 ≤ s.size
  · exact rep_big W B hT s hs h
  · exact rep_small W B hT s hs h
end Go.Proofs.YtlglbpjccpdloaaGreatDoor.Ext
set_option linter.unusedVariables false
set_option linter.unusedSimpArgs false
namespace Go.Proofs.YtlglbpjccpdloaaGreatDoor.Ext
open Go.RowKit Go.Proofs.YtlglbpjccpdloaaGreatDoorW.PrintWords Go.Proofs.YtlglbpjccpdloaaGreatDoorW.PrintLast
theorem on_load (a : Addr) (d : Int) (b : Bool) (hb : (d != 0) = b) (w : World) (hc : w.cell? a = some (.int .u32 d)) :
    Calls Tryz.prog 103 #[.pointer (some a)] w fun e w' => e = .returned (.bool b) ∧ w = w' := by
  have hl := run_call_load (P := Tryz.prog) Tryz.func120 (by kernel_rfl) (by kernel_rfl) (by kernel_rfl) .u32 (by kernel_rfl) hc
  go_enter Tryz.func103, Tryz.ntmps103
  go_wp2
  go_ret
  exact ⟨by first | rfl | (simp [hb]; done) | simp_all, rfl⟩
def Iv (n : Nat) : Value := .iface 164 (.pointer (some ⟨n, 0, none⟩))
def BO (W : World) (R : Nat) (e : Ending) (w' : World) : Prop :=
  e = .returned (.tuple #[]) ∧ ∃ wb, BSt W wb 0 ∧ w' = (wb.setCell ⟨R, 3, none⟩ (Iv (W.heap.size + 1))).setCell ⟨R, 4, none⟩ (.slice none 0 0)
theorem bst_bel {w W : World} {g : Nat} (h : BSt w W g) : Below w.heap.size w W := by
  obtain ⟨_, _, _, _, _, _, hb, _⟩ := h.ex
  exact hb
structure Four (W : World) (g : Nat) : Prop where
  h0 : W.cell? ⟨g, 0, none⟩ = some (.string ⟨#[92]⟩)
  h1 : W.cell? ⟨g, 1, none⟩ = some (.string ⟨#[92, 92]⟩)
  h2 : W.cell? ⟨g, 2, none⟩ = some (.string ⟨#[34]⟩)
  h3 : W.cell? ⟨g, 3, none⟩ = some (.string ⟨#[92, 34]⟩)
set_option maxRecDepth 100000 in
set_option maxHeartbeats 4000000 in
theorem on_build (W : World) (R g c : Nat) (x0 x1 x2 x3 : Value) (hR : W.heap[R]? = some (.cells #[x0, x1, x2, x3, .slice (some ⟨g, 0, none⟩) 4 c] 117 (0, 0))) (h : Four W g) :
    Calls Tryz.prog 90 #[.pointer (some ⟨R, 0, none⟩)] W (BO W R) := by
  have HC := Lib.hid (rp_build W R g c x0 x1 x2 x3 hR h.h0 h.h1 h.h2 h.h3)
  have HR := Lib.hid hR
  clear hR h
  go_enter Tryz.func90, Tryz.ntmps90
  go_wp2_with (go_at_call 105; refine HC.out.mono ?_; rintro e wb ⟨rfl, hB⟩; have HB := Lib.hid hB; have hRb := ((bst_bel hB).block R (blk_lt HR.out)).trans HR.out; have r3 := (blk_cell hRb 3).trans rfl; have r4 := (blk_cell hRb 4).trans rfl; have z3 := blk_frozen hRb 3; have z4 := blk_frozen hRb 4; clear hB hRb)
  go_end0
  exact ⟨rfl, _, HB.out, rfl⟩
def Done (W : World) (R : Nat) (e : Ending) (w' : World) : Prop :=
  e = .returned (.tuple #[]) ∧ ∃ wb, BSt (W.setCell ⟨R, 1, none⟩ (.int .i32 1)) wb 0 ∧ w' = ((((wb.setCell ⟨R, 3, none⟩ (Iv (W.heap.size + 1))).setCell ⟨R, 4, none⟩ (.slice none 0 0)).drew.setCell ⟨R, 0, none⟩ (.int .u32 1)).setCell ⟨R, 1, none⟩ (.int .i32 0))
theorem four_set {W : World} {g R : Nat} {cs : Array Value} (h : Four W g) (hR : W.heap[R]? = some (.cells cs 117 (0, 0))) (hne : g ≠ R) (j : Nat) (v : Value) : Four (W.setCell ⟨R, j, none⟩ v) g :=
  ⟨(World.cell?_setCell_other _ _ _ _ (by intro he; injection he with he; exact hne he.symm)).trans h.h0, (World.cell?_setCell_other _ _ _ _ (by intro he; injection he with he; exact hne he.symm)).trans h.h1,
   (World.cell?_setCell_other _ _ _ _ (by intro he; injection he with he; exact hne he.symm)).trans h.h2, (World.cell?_setCell_other _ _ _ _ (by intro he; injection he with he; exact hne he.symm)).trans h.h3⟩
set_option maxRecDepth 100000 in
set_option maxHeartbeats 4000000 in
theorem on_slow (W : World) (R g c : Nat) (hR : W.heap[R]? = some (.cells #[.int .u32 0, .int .i32 0, .int .u32 0, .nilIface, .slice (some ⟨g, 0, none⟩) 4 c] 117 (0, 0))) (h : Four W g) (hne : g ≠ R) :
    Calls Tryz.prog 104 #[.pointer (some ⟨R, 0, none⟩), .func (.func 90) #[.pointer (some ⟨R, 0, none⟩)] #[]] W (Done W R) := by
  have hR1 := blk_set hR 1 (.int .i32 1)
  have c0 := (blk_cell hR1 0).trans rfl
  have d1 := (blk_cell hR 1).trans rfl
  have z1 := blk_frozen hR 1
  have HL := Lib.hid (on_load ⟨R, 0, none⟩ 0 false rfl (W.setCell ⟨R, 1, none⟩ (.int .i32 1)) c0)
  have HK := Lib.hid (on_lock_free ⟨R, 1, none⟩ W d1 z1)
  have HB := Lib.hid (on_build (W.setCell ⟨R, 1, none⟩ (.int .i32 1)) R g c _ _ _ _ hR1 (four_set h hR hne 1 _))
  have HR := Lib.hid hR1
  have hnot : ∀ (x : Bool) (w : World), (Op.unary .not (.bool x)).run Tryz.prog w = .ok (.bool (!x)) w := fun _ _ => rfl
  clear hR hR1 h c0 d1 z1
  go_enter_defers Tryz.func104, Tryz.ntmps104
  go_wp2_with (first | (go_at_call 121; refine HK.out.mono ?_; rintro e w' ⟨rfl, rfl⟩) | (go_at_call 103; refine HL.out.mono ?_; rintro e w' ⟨rfl, rfl⟩) | (go_at_call 90; refine HB.out.mono ?_; rintro e w2 ⟨rfl, wb, hB, rfl⟩))
  have hb := ((bst_bel hB).block R (blk_lt HR.out)).trans HR.out
  have hb3 := blk_set hb 3 (Iv (W.heap.size + 1))
  have hb4 := blk_set hb3 4 (.slice none 0 0)
  refine leaves_cons (f := 123) (args := #[.pointer (some ⟨R, 0, none⟩), .bool true]) (by simp) (by simp [go_sem]) ?_
  refine (on_store_deferred ⟨R, 0, none⟩ (.int .u32 0) .returning _ ((blk_cell hb4 0).trans rfl) (blk_frozen hb4 0)).mono ?_
  rintro e u' w'' ⟨rfl, rfl, rfl⟩
  have hb5 := blk_set (w := ((wb.setCell ⟨R, 3, none⟩ (Iv (W.heap.size + 1))).setCell ⟨R, 4, none⟩ (.slice none 0 0)).drew) hb4 0 (.int .u32 1)
  refine leaves_cons (f := 122) (args := #[.pointer (some ⟨R, 1, none⟩)]) (by simp [settle]) (by simp [go_sem]) ?_
  refine (on_unlock_deferred ⟨R, 1, none⟩ _ _ ((blk_cell hb5 1).trans rfl) (blk_frozen hb5 1)).mono ?_
  rintro e u' w'' ⟨rfl, rfl, rfl⟩
  simp [Leaves, settle, results, Tryz.results104]
  exact ⟨rfl, wb, hB, rfl⟩
set_option maxRecDepth 100000 in
set_option maxHeartbeats 4000000 in
theorem on_do (W : World) (R g c : Nat) (hR : W.heap[R]? = some (.cells #[.int .u32 0, .int .i32 0, .int .u32 0, .nilIface, .slice (some ⟨g, 0, none⟩) 4 c] 117 (0, 0))) (h : Four W g) (hne : g ≠ R) :
    Calls Tryz.prog 89 #[.pointer (some ⟨R, 0, none⟩), .func (.func 90) #[.pointer (some ⟨R, 0, none⟩)] #[]] W (Done W R) := by
  have HL := Lib.hid (on_load ⟨R, 0, none⟩ 0 false rfl W ((blk_cell hR 0).trans rfl))
  have HS := Lib.hid (on_slow W R g c hR h hne)
  have hnot : ∀ (x : Bool) (w : World), (Op.unary .not (.bool x)).run Tryz.prog w = .ok (.bool (!x)) w := fun _ _ => rfl
  clear hR h
  go_enter Tryz.func89, Tryz.ntmps89
  go_wp2_with (first | (go_at_call 103; refine HL.out.mono ?_; rintro e w' ⟨rfl, rfl⟩) | (go_at_call 104; refine HS.out.mono ?_; rintro e w2 ⟨rfl, hw2⟩))
  go_end0
  exact ⟨rfl, hw2⟩
theorem rt_drew {W : World} {B : Nat} (h : RT W B) : RT W.drew B := rt_below h (below_drew (Below.refl _ _))
theorem done_is {W w' : World} {R g c : Nat} (hR : W.heap[R]? = some (.cells #[.int .u32 0, .int .i32 0, .int .u32 0, .nilIface, .slice (some ⟨g, 0, none⟩) 4 c] 117 (0, 0)))
    (h : ∃ wb, BSt (W.setCell ⟨R, 1, none⟩ (.int .i32 1)) wb 0 ∧ w' = ((((wb.setCell ⟨R, 3, none⟩ (Iv (W.heap.size + 1))).setCell ⟨R, 4, none⟩ (.slice none 0 0)).drew.setCell ⟨R, 0, none⟩ (.int .u32 1)).setCell ⟨R, 1, none⟩ (.int .i32 0))) :
    w'.cell? ⟨R, 3, none⟩ = some (Iv (W.heap.size + 1)) ∧ RT w' (W.heap.size + 1) ∧ ∀ b, b ≤ R → Below b W w' := by
  obtain ⟨wb, hB, rfl⟩ := h
  have hR1 := blk_set hR 1 (.int .i32 1)
  have hb := ((bst_bel hB).block R (blk_lt hR1)).trans hR1
  have hb3 := blk_set hb 3 (Iv (W.heap.size + 1))
  have hb4 := blk_set hb3 4 (.slice none 0 0)
  have hb5 := blk_set (w := ((wb.setCell ⟨R, 3, none⟩ (Iv (W.heap.size + 1))).setCell ⟨R, 4, none⟩ (.slice none 0 0)).drew) hb4 0 (.int .u32 1)
  have hb6 := blk_set hb5 1 (.int .i32 0)
  have hT := rt_of hB
  rw [show (W.setCell ⟨R, 1, none⟩ (.int .i32 1)).heap.size = W.heap.size by simp] at hT
  have hT2 : RT ((wb.setCell ⟨R, 3, none⟩ (Iv (W.heap.size + 1))).setCell ⟨R, 4, none⟩ (.slice none 0 0)).drew (W.heap.size + 1) := rt_drew (rt_set (rt_set hT hb 3 _) hb3 4 _)
  refine ⟨(blk_cell hb6 3).trans rfl, rt_set (rt_set hT2 hb4 0 _) hb5 1 _, fun b hbR => ?_⟩
  have hlt := blk_lt hR
  have b1 : Below b W (W.setCell ⟨R, 1, none⟩ (.int .i32 1)) := (Below.refl b W).setCell hbR _
  have b2 : Below b W wb := b1.trans ((bst_bel hB).mono (by simp; omega))
  have b3 : Below b W ((wb.setCell ⟨R, 3, none⟩ (Iv (W.heap.size + 1))).setCell ⟨R, 4, none⟩ (.slice none 0 0)) := (b2.setCell hbR _).setCell hbR _
  exact ((below_drew b3).setCell hbR _).setCell hbR _
set_option maxRecDepth 100000 in
set_option maxHeartbeats 4000000 in
theorem repl_any (W : World) (R g c : Nat) (hR : W.heap[R]? = some (.cells #[.int .u32 0, .int .i32 0, .int .u32 0, .nilIface, .slice (some ⟨g, 0, none⟩) 4 c] 117 (0, 0))) (h : Four W g) (hne : g ≠ R) (s : ByteArray) (hs : s.size ≤ 2000) :
    Calls Tryz.prog 67 #[.pointer (some ⟨R, 0, none⟩), .string s] W fun e w' => e = .returned (.string ⟨(WP.es s.data.toList).toArray⟩) ∧ ∀ b, b ≤ R → Below b W w' := by
  have HD := Lib.hid (on_do W R g c hR h hne)
  have HR := Lib.hid hR
  have hmf : ∀ (fn : Fn) (first cap : Array Value) (w : World), (Instr.makeFunc fn first cap).run Tryz.prog w = .ok (.func fn first cap) w := fun _ _ _ _ => rfl
  have hme : ∀ (a : Addr) (w : World), (method 323 164 (.pointer (some a)) "Replace").run Tryz.prog w = .ok (184, .pointer (some a)) w := fun a w => by kernel_rfl
  clear hR h
  go_enter Tryz.func67, Tryz.ntmps67
  go_wp2_with (first | (go_at_call 89; refine HD.out.mono ?_; rintro e w2 ⟨rfl, hw2⟩; obtain ⟨k3, hT, hbel⟩ := done_is HR.out hw2; unfold Iv at k3; have HT := Lib.hid hT; have HBL := Lib.hid hbel; clear hw2 hT hbel) | (go_at_call 184; refine (rep_any _ _ HT.out s hs).mono ?_; rintro e w3 ⟨rfl, hb3⟩; have HB3 := Lib.hid hb3; clear hb3))
  go_ret
  exact ⟨rfl, fun b hb => (HBL.out b hb).trans (HB3.out.mono (by have := (HBL.out b hb).size; have := blk_lt HR.out; omega))⟩
theorem four_own {w1 : World} {base : Nat} {v1 : Value} (h : w1.ownsRow base 9 1 v1 4 [Value.string ⟨#[92]⟩, Value.string ⟨#[92, 92]⟩, Value.string ⟨#[34]⟩, Value.string ⟨#[92, 34]⟩]) :
    ∃ g c, v1 = .slice (some ⟨g, 0, none⟩) 4 c ∧ base ≤ g ∧ g < w1.heap.size ∧ Four w1 g := by
  rcases h.2 with ⟨_, h0⟩ | ⟨g, c, cur, rfl, hg, hh, _⟩
  · cases h0
  have o0 := h.cells (g := g) rfl 0 (.string ⟨#[92]⟩) rfl
  have o1 := h.cells (g := g) rfl 1 (.string ⟨#[92, 92]⟩) rfl
  have o2 := h.cells (g := g) rfl 2 (.string ⟨#[34]⟩) rfl
  have o3 := h.cells (g := g) rfl 3 (.string ⟨#[92, 34]⟩) rfl
  rw [add_plain] at o0 o1 o2 o3
  exact ⟨g, c, rfl, hg, blk_lt hh, o0, o1, o2, o3⟩
theorem four_below {W W' : World} {g : Nat} (h : Four W g) (hb : Below W.heap.size W W') : Four W' g := ⟨pw_cell_below hb h.h0, pw_cell_below hb h.h1, pw_cell_below hb h.h2, pw_cell_below hb h.h3⟩
def NR (w : World) (e : Ending) (w' : World) : Prop :=
  ∃ R g c, e = .returned (.pointer (some ⟨R, 0, none⟩)) ∧ w'.heap[R]? = some (.cells #[.int .u32 0, .int .i32 0, .int .u32 0, .nilIface, .slice (some ⟨g, 0, none⟩) 4 c] 117 (0, 0)) ∧ Four w' g ∧ g ≠ R ∧ w.heap.size ≤ R ∧ Below w.heap.size w w'
set_option maxRecDepth 100000 in
set_option maxHeartbeats 4000000 in
theorem new_repl (w : World) (b c0 : Nat) (h : Four w b) :
    Calls Tryz.prog 66 #[.slice (some ⟨b, 0, none⟩) 4 c0] w (NR w) := by
  have HF := Lib.hid h
  clear h
  obtain ⟨i0, hi, hzz⟩ := Option.map_eq_some_iff.1 info_str
  simp only [Prod.mk.injEq] at hzz
  obtain ⟨hz0, hz1, hz2⟩ := hzz
  have HI := Lib.hid hi
  have HZ0 := Lib.hid hz0
  have HZ1 := Lib.hid hz1
  have HZ2 := Lib.hid hz2
  clear hi hz0 hz1 hz2
  go_enter Tryz.func66, Tryz.ntmps66
  go_wp2_with (at_builtin; (refine wpList_append_own_at _ rfl (.const (.slice none 0 0)) (.tmp 8) 22 rfl w.heap.size 9 i0 (.string ByteArray.empty) 1 16 Tryz.underlying22 HI.out HZ0.out HZ1.out HZ2.out rfl (by decide) (.slice none 0 0) 0 [] rfl (own_nil _ _ _ _) ⟨b, 0, none⟩ 4 c0 [Value.string ⟨#[92]⟩, Value.string ⟨#[92, 92]⟩, Value.string ⟨#[34]⟩, Value.string ⟨#[92, 34]⟩] rfl rfl (fun j u hj => by match j, hj with | 0, hj => cases hj; rw [add_plain]; exact HF.out.h0 | 1, hj => cases hj; rw [add_plain]; exact HF.out.h1 | 2, hj => cases hj; rw [add_plain]; exact HF.out.h2 | 3, hj => cases hj; rw [add_plain]; exact HF.out.h3) (by simp [Value.oneCell']) (by simp [maxLen]) (by decide) (Nat.le_refl _) ?_; intro v1 w1 hown hg _ hat; obtain ⟨g, c, ev, hg0, hg1, hF1⟩ := four_own hown; subst ev; have HX := Lib.hid (And.intro hF1 (And.intro hg0 (And.intro hg1 hg))); clear hown hg hat hg0 hg1 hF1))
  obtain ⟨hF1, hg0, hg1, hgr⟩ := HX.out
  have hbw : Below w.heap.size w w1 := ⟨hgr.os, hgr.tape, hgr.output, hgr.size, fun i hi => hgr.block i hi (by simp [Value.ownBlock])⟩
  go_ret
  exact ⟨w1.heap.size, g, c, rfl, heap_alloc_new w1 _, four_below hF1 (below_alloc (Below.refl _ _) _), by omega, hbw.size, below_alloc hbw _⟩
end Go.Proofs.YtlglbpjccpdloaaGreatDoor.Ext
set_option linter.unusedVariables false
set_option linter.unusedSimpArgs false
namespace Go.Proofs.YtlglbpjccpdloaaGreatDoor.Ext
open Go.RowKit Go.Proofs.YtlglbpjccpdloaaGreatDoorW.PrintWords Go.Proofs.YtlglbpjccpdloaaGreatDoorW.PrintLast Go.Proofs.YtlglbpjccpdloaaGreatDoor.PWrdA
theorem bt_nat (s : ByteArray) (k : Nat) (h : k < s.size) : bt s (k : Int) = (s[k].toNat : Int) := by simp [bt, h]
theorem may_f (c : UInt8) : words_may.f (c.toNat : Int) = some (WP.may c) := by
  unfold words_may.f WP.may
  have h256 : c.toNat < 256 := c.toNat_lt
  by_cases h1 : 32 ≤ c.toNat
  · by_cases h2 : c.toNat ≤ 126
    · rw [if_pos (by omega), if_pos (by omega)]; simp [h1, h2]
    · rw [if_pos (by omega), if_neg (by omega)]
      have e : ((c.toNat : Int) == 9) = decide (c.toNat = 9) := by rw [Bool.eq_iff_iff]; simp; omega
      rw [e]; simp [h1, h2]
  · rw [if_neg (by omega)]
    have e : ((c.toNat : Int) == 9) = decide (c.toNat = 9) := by rw [Bool.eq_iff_iff]; simp; omega
    rw [e]; simp [h1]
theorem blank_f (c : UInt8) : words_blank.f (c.toNat : Int) = some (WP.blk c) := by
  unfold words_blank.f WP.blk
  by_cases h1 : c.toNat = 32
  · rw [if_pos (by omega)]; simp [h1]
  · rw [if_neg (by omega)]
    have e : ((c.toNat : Int) == 9) = decide (c.toNat = 9) := by rw [Bool.eq_iff_iff]; simp; omega
    rw [e]; simp [h1]
theorem toList_data (s : ByteArray) : s.toList = s.data.toList := ByteArray.toList_eq s
theorem plain_l0 (s : ByteArray) (hs : s.size ≤ 9223372036854775807) : ∀ (f k : Nat), s.size - k < f → k ≤ s.size →
    words_Plain.l0 f s (s.size : Int) (k : Int) = some ((s.data.toList.drop k).all WP.pb && (match s.data.toList with | [] => false | c :: _ => !decide (c.toNat = 35))) := by
  intro f
  induction f with
  | zero => intro k h; omega
  | succ f ih =>
    intro k h hk
    unfold words_Plain.l0
    by_cases hlt : k < s.size
    · rw [if_pos (by omega), if_pos (by omega), if_pos (by omega), bt_nat s k hlt, may_f, drop_at s k hlt]
      simp only [Option.bind_some, List.all_cons]
      obtain ⟨c, hc⟩ : ∃ c, s[k] = c := ⟨_, rfl⟩
      rw [hc]
      by_cases h1 : WP.may c = true
      · rw [if_pos h1, blank_f]
        simp only [Option.bind_some]
        by_cases h2 : WP.blk c = true
        · rw [if_pos h2]; simp [WP.pb, h2]
        · rw [if_neg h2]
          by_cases h3 : c.toNat = 34
          · rw [if_pos (by omega)]; simp [WP.pb, h3]
          · rw [if_neg (by omega)]
            by_cases h4 : c.toNat = 92
            · rw [if_pos (by omega)]; simp [WP.pb, h4]
            · rw [if_neg (by omega), show wrap64 ((k : Int) + 1) = ((k + 1 : Nat) : Int) by unfold wrap64; omega, ih (k + 1) (by omega) (by omega)]
              have : WP.pb c = true := by simp [WP.pb, h1, h2, h3, h4]
              rw [this]; simp
      · rw [if_neg h1]; simp [WP.pb, h1]
    · rw [if_neg (by omega), toList_data, drop_end s k (by omega)]
      cases hd : s.data.toList with
      | nil => rw [if_pos rfl]; rfl
      | cons c r =>
        have h0 : 0 < s.size := by have := congrArg List.length hd; simp at this; omega
        have hc : s[0] = c := by
          have := drop_at s 0 h0
          rw [List.drop_zero, hd] at this
          exact (List.cons.inj this).1.symm
        rw [if_neg (by simp), if_pos (by omega), show (0 : Int) = ((0 : Nat) : Int) from rfl, bt_nat s 0 h0, hc]
        have e : ((c.toNat : Int) != 35) = !decide (c.toNat = 35) := by
          rw [Bool.eq_iff_iff]; simp; omega
        rw [e]; rfl
theorem plain_is (s : ByteArray) (hs : s.size ≤ 9223372036854775807) (f : Nat) (hf : s.size < f) : words_Plain.f f s = some (WP.plain s.data.toList) := by
  unfold words_Plain.f
  have h := plain_l0 s hs f 0 (by omega) (Nat.zero_le _)
  rw [show ((0 : Nat) : Int) = 0 from rfl] at h
  rw [h, List.drop_zero]
  cases s.data.toList with
  | nil => rfl
  | cons c r => simp only [WP.plain]; rw [Bool.and_comm]
theorem plain_call (s : ByteArray) (hs : s.size ≤ 2000) (b : Bool) (hb : WP.plain s.data.toList = b) (w : World) :
    Calls Tryz.prog 65 #[.string s] w fun e w' => e = .returned (.bool b) ∧ Drawn0 w w' :=
  words_Plain.calls (s.size + 1) s b w (by rw [plain_is s (by omega) _ (by omega), hb])
def bl (s : ByteArray) : List UInt8 := s.data.toList
structure JB (L : List ByteArray) (w W : World) (i : Nat) (v : Value) : Prop where
  own : W.ownsRow w.heap.size 9 1 v i (strs ((L.take i).map (fun s => WP.qt (bl s))))
  bel : Below w.heap.size w W
  may : ∀ x ∈ L.take i, (bl x).all WP.may = true
theorem qt_len (l : List UInt8) : (WP.qt l).length ≤ 2 * l.length + 2 := by
  unfold WP.qt
  split
  · omega
  · have := WP.es_len l
    have := WP.cn_le l
    simp
    omega
theorem ba_qt_plain (x : ByteArray) (h : WP.plain (bl x) = true) : ba (WP.qt (bl x)) = x := by
  unfold WP.qt
  rw [if_pos h]
  exact ba_self x
theorem ba_qt_quote (x q : ByteArray) (h : WP.plain (bl x) = false) (hq : q = ⟨(WP.es x.data.toList).toArray⟩) : ba (WP.qt (bl x)) = ⟨#[34]⟩ ++ q ++ ⟨#[34]⟩ := by
  unfold WP.qt
  rw [if_neg (by simp [h]), hq]
  apply ByteArray.ext
  apply Array.toList_inj.1
  simp [ba, bl]
theorem jb_next {L : List ByteArray} {w W w1 : World} {i : Nat} {v v1 : Value} {x : ByteArray} {y : ByteArray} (h : JB L w W i v) (hx : L[i]? = some x) (hm : (bl x).all WP.may = true) (hy : y = ba (WP.qt (bl x)))
    (ho : w1.ownsRow w.heap.size 9 1 v1 (strs ((L.take i).map (fun s => WP.qt (bl s))) ++ [Value.string y]).length (strs ((L.take i).map (fun s => WP.qt (bl s))) ++ [Value.string y])) (hb : Below w.heap.size w w1) : JB L w w1 (i + 1) v1 := by
  have hl : i < L.length := by
    rcases Nat.lt_or_ge i L.length with h | h
    · exact h
    · rw [List.getElem?_eq_none h] at hx; cases hx
  have ht : L.take (i + 1) = L.take i ++ [x] := by
    rw [List.take_add_one, hx]; rfl
  refine ⟨?_, hb, ?_⟩
  · have e : strs ((L.take (i + 1)).map (fun s => WP.qt (bl s))) = strs ((L.take i).map (fun s => WP.qt (bl s))) ++ [Value.string y] := by rw [ht, hy]; simp [strs]
    rw [e]
    have el : (strs ((L.take i).map (fun s => WP.qt (bl s))) ++ [Value.string y]).length = i + 1 := by simp [strs]; omega
    rw [el] at ho
    exact ho
  · intro z hz
    rw [ht, List.mem_append] at hz
    rcases hz with hz | hz
    · exact h.may z hz
    · rw [List.mem_singleton.1 hz]; exact hm
theorem jb_len {L : List ByteArray} {i : Nat} (h : i ≤ L.length) : (strs ((L.take i).map (fun s => WP.qt (bl s)))).length = i := by simp [strs]; omega
theorem join_bad {L : List ByteArray} {i : Nat} {x : ByteArray} (h16 : L.length ≤ 16) (hx : L[i]? = some x) (hm : (bl x).all WP.may = false) : WP.join (L.map bl) = [] := by
  unfold WP.join
  rw [if_neg (by simp; omega), if_pos]
  rw [List.all_eq_false]
  exact ⟨bl x, List.mem_map.2 ⟨x, List.mem_iff_getElem?.2 ⟨i, hx⟩, rfl⟩, by simp [hm]⟩
theorem sep_len (l : List (List UInt8)) (h16 : l.length ≤ 16) (h : ∀ x ∈ l, x.length ≤ 2000) : (WP.sep (l.map WP.qt)).length ≤ 100000 := by
  have : ∀ l : List (List UInt8), (∀ x ∈ l, x.length ≤ 2000) → (WP.sep (l.map WP.qt)).length ≤ l.length * 4003 := by
    intro l
    induction l with
    | nil => intro _; simp [WP.sep]
    | cons a r ih =>
      intro h
      have h1 := qt_len a
      have h2 := h a (by simp)
      cases r with
      | nil => simp [WP.sep]; omega
      | cons b r =>
        have h3 := ih (fun x hx => h x (by simp [List.mem_cons] at hx ⊢; exact .inr hx))
        simp only [List.map_cons, WP.sep, List.length_append, List.length_cons] at h3 ⊢
        omega
  have := this l h
  omega
theorem join_sep (l : List (List UInt8)) : Lib.join (l.map (fun b => (ba b).data.toList)) [32] = WP.sep l := by
  induction l with
  | nil => rfl
  | cons a r ih =>
    cases r with
    | nil => simp [Lib.join, List.intercalate, WP.sep, ba]
    | cons b r =>
      have e : Lib.join ((a :: b :: r).map (fun b => (ba b).data.toList)) [32] = (ba a).data.toList ++ 32 :: Lib.join ((b :: r).map (fun b => (ba b).data.toList)) [32] := by simp [Lib.join, List.intercalate, List.intersperse]
      rw [e, ih]
      simp [WP.sep, ba]
theorem strs_form {W : World} {base n : Nat} {v : Value} {ws : List (List UInt8)} (h : W.ownsRow base 9 1 v n (strs ws)) (hn : 0 < n) :
    ∃ g cap, v = .slice (some ⟨g, 0, none⟩) n cap ∧ n ≤ cap ∧ (∀ (j : Nat) x, (ws.map ba)[j]? = some x → W.cell? ⟨g, j, none⟩ = some (.string x)) ∧ g < W.heap.size := by
  rcases h.2 with ⟨_, h0⟩ | ⟨g, cap, cur, rfl, hg, hh, hle, _⟩
  · have := h.1; rw [h0] at this; simp at this; omega
  refine ⟨g, cap, rfl, hle, fun j x hj => ?_, blk_lt hh⟩
  have := h.cells (g := g) rfl j (.string x) (by
    simp only [strs, List.getElem?_map] at hj ⊢
    cases hw : ws[j]? with
    | none => rw [hw] at hj; cases hj
    | some b => rw [hw] at hj; simp at hj ⊢; exact hj)
  rwa [add_plain] at this
theorem four_new (W : World) : Four (W.alloc (.cells #[.string ⟨#[92]⟩, .string ⟨#[92, 92]⟩, .string ⟨#[34]⟩, .string ⟨#[92, 34]⟩] 9)) W.heap.size := by
  have h := heap_alloc_new W (.cells #[.string ⟨#[92]⟩, .string ⟨#[92, 92]⟩, .string ⟨#[34]⟩, .string ⟨#[92, 34]⟩] 9)
  exact ⟨(blk_cell h 0).trans rfl, (blk_cell h 1).trans rfl, (blk_cell h 2).trans rfl, (blk_cell h 3).trans rfl⟩
set_option maxRecDepth 100000 in
set_option maxHeartbeats 8000000 in
theorem join_walk (bk off c : Nat) (L : List ByteArray) (w : World) (hL : 0 < L.length) (h16 : L.length ≤ 16) (hcells : ∀ (j : Nat) x, L[j]? = some x → w.cell? ⟨bk, off + j, none⟩ = some (.string x)) (hbk : bk < w.heap.size) (hsz : ∀ x ∈ L, x.size ≤ 2000) :
    Calls Tryz.prog 41 #[.slice (some ⟨bk, off, none⟩) L.length c] w fun e w' => e = .returned (.string (ba (WP.join (L.map bl)))) ∧ Below w.heap.size w w' := by
  have HC := Lib.hid hcells
  have HSZ := Lib.hid hsz
  clear hcells hsz
  go_enter Tryz.func41, Tryz.ntmps41
  go_wp2_with fail
  go_loopg [3, 13] L.length (fun g v3 v13 W2 => ∃ i : Nat, g = L.length - i ∧ i ≤ L.length ∧ v13 = .int .i64 i ∧ JB L w W2 i v3)
  case atStart => exact ⟨0, by omega, by omega, rfl, ⟨own_nil _ _ _ _, Below.refl _ _, by simp⟩⟩
  case round =>
    obtain ⟨i, hg, hi, rfl, hJ⟩ := hrel
    have HG := Lib.hid hg
    have HJ := Lib.hid hJ
    clear hg hJ
    by_cases hi2 : i < L.length
    · obtain ⟨x, hx⟩ : ∃ x, L[i]? = some x := ⟨_, List.getElem?_eq_getElem hi2⟩
      have hxs : x.size ≤ 2000 := HSZ.out x (List.mem_iff_getElem?.2 ⟨i, hx⟩)
      have hcx := (HJ.out.bel.cell (p := ⟨bk, off + i, none⟩) hbk).trans (HC.out i x hx)
      have HX := Lib.hid hx
      clear hx
      obtain ⟨wo, hwo⟩ : ∃ wo : World, wo = wr := ⟨_, rfl⟩
      subst hwo
      go_wp2_with fail
      go_loopg [19] x.size (fun g v19 W2 => wo = W2 ∧ ∃ k : Nat, g = x.size - k ∧ k ≤ x.size ∧ v19 = .int .i64 k ∧ ((bl x).take k).all WP.may = true)
      case atStart => exact ⟨rfl, 0, by omega, by omega, rfl, rfl⟩
      case round =>
        obtain ⟨rfl, k, hg2, hk, rfl, ham⟩ := hrel
        have HG2 := Lib.hid hg2
        have HA := Lib.hid ham
        clear hg2 ham
        by_cases hk2 : k < x.size
        · obtain ⟨b, hb⟩ : ∃ b, x[k]'hk2 = b := ⟨_, rfl⟩
          cases hm : WP.may b
          · have HY := cy b false hm
            have hall : (bl x).all WP.may = false := by
              rw [List.all_eq_false]
              exact ⟨b, by rw [← hb]; exact List.getElem_mem (l := x.data.toList) (by simpa using hk2), by simp [hm]⟩
            have HALL := Lib.hid hall
            clear hall hm
            go_wp2_with (go_at_call 64; refine (HY.out _).mono ?_; rintro e w1 ⟨rfl, rfl⟩)
            go_ret
            have hfin : Ending.returned (.string ⟨#[]⟩) = Ending.returned (.string (ba (WP.join (L.map bl)))) := by rw [join_bad h16 HX.out HALL.out]; rfl
            exact ⟨hfin, HJ.out.bel⟩
          · have HY := cy b true hm
            have hall : ((bl x).take (k + 1)).all WP.may = true := by
              unfold bl
              rw [take_snoc_b x k hk2, hb, List.all_append]
              have := HA.out
              unfold bl at this
              rw [this]
              simp [hm]
            have HALL := Lib.hid hall
            clear hall hm
            go_wp2_with (go_at_call 64; refine (HY.out _).mono ?_; rintro e w1 ⟨rfl, rfl⟩)
            go_roundg (x.size - (k + 1))
            case measure => have := HG2.out; omega
            case rel => exact ⟨rfl, k + 1, rfl, by omega, rfl, HALL.out⟩
        · have hall : (bl x).all WP.may = true := by
            have h := HA.out
            have : k = x.size := by omega
            subst this
            unfold bl at h ⊢
            rwa [take_all] at h
          have HALL := Lib.hid hall
          clear hall
          cases hp : WP.plain x.data.toList
          · have HP := Lib.hid (fun w => plain_call x hxs false hp w)
            have HPL := Lib.hid hp
            clear hp
            have hi16 : i ≤ 16 := by omega
            obtain ⟨q, hq⟩ : ∃ q : ByteArray, q = ⟨(WP.es x.data.toList).toArray⟩ := ⟨_, rfl⟩
            have hqs : q.size ≤ 4000 := by
              rw [hq]
              show (WP.es x.data.toList).toArray.size ≤ 4000
              have h1 := WP.es_len x.data.toList
              have h2 := WP.cn_le x.data.toList
              rw [List.size_toArray]
              have h3 : x.data.toList.length = x.size := by simp
              omega
            have HQ := Lib.hid hq
            clear hq
            go_wp2_with (first | (go_at_call 65; refine (HP.out _).mono ?_; rintro e w1 ⟨rfl, ⟨nd, rfl⟩⟩) |
              (go_at_call 66; (refine (new_repl _ wo.heap.size 4 (four_new (wo.drewN nd))).mono ?_; rintro e w1 ⟨R, g, c2, rfl, hR, hF, hne, hRs, hb1⟩; have HR := Lib.hid (And.intro hR (And.intro hF (And.intro hne (And.intro hRs hb1)))); clear hR hF hne hRs hb1)) |
              (go_at_call 67; (refine (repl_any w1 R g c2 HR.out.1 HR.out.2.1 HR.out.2.2.1 x hxs).mono ?_; rintro e w2 ⟨he, hb2⟩; rw [← HQ.out] at he; subst he; have HB2 := Lib.hid (HR.out.2.2.2.2.trans ((hb2 _ HR.out.2.2.2.1))); clear hb2; have HW2 : Hid (Below w.heap.size w w2) := Lib.hid (below_then ((pw_below_drewN HJ.out.bel nd).alloc HJ.out.bel.size _) (by have := HJ.out.bel.size; rw [show ∀ (X : World) o, (X.alloc o).heap.size = X.heap.size + 1 from fun X o => by simp]; exact Nat.le_succ_of_le this) HB2.out))) |
              (at_builtin; (refine print_append (w0 := _) w.heap.size rfl (.tmp 37) (.tmp 39) 22 9 (.string ByteArray.empty) 16 rfl Tryz.underlying22 info_str rfl (by decide) u3 (strs ((L.take i).map (fun s => WP.qt (bl s)))) _ rfl rfl rfl (by rw [jb_len hi]; exact pw_own_below ((pw_own_drewN HJ.out.own nd).alloc _) HB2.out) (Below.refl _ _) HW2.out.size (by rw [jb_len hi]; omega) ?_; intro v1 w3 hown hbel hgr hat; have HN := Lib.hid (jb_next HJ.out HX.out HALL.out (ba_qt_quote x q HPL.out HQ.out).symm hown (HW2.out.trans hbel)); clear hown hbel hgr hat)))
            go_roundg (L.length - (i + 1))
            case measure => have := HG.out; omega
            case rel => exact ⟨i + 1, rfl, by omega, rfl, HN.out⟩
          · have HP := Lib.hid (fun w => plain_call x hxs true hp w)
            have HPL := Lib.hid hp
            clear hp
            have hi16 : i ≤ 16 := by omega
            go_wp2_with (first | (go_at_call 65; refine (HP.out _).mono ?_; rintro e w1 ⟨rfl, ⟨nd, rfl⟩⟩) | (at_builtin; (refine print_append (w0 := _) w.heap.size rfl (.tmp 37) (.tmp 39) 22 9 (.string ByteArray.empty) 16 rfl Tryz.underlying22 info_str rfl (by decide) u3 (strs ((L.take i).map (fun s => WP.qt (bl s)))) (.string x) rfl rfl rfl (by rw [jb_len hi]; exact pw_own_drewN HJ.out.own nd) (Below.refl _ _) HJ.out.bel.size (by rw [jb_len hi]; omega) ?_; intro v1 w1 hown hbel hgr hat; have HN := Lib.hid (jb_next HJ.out HX.out HALL.out (ba_qt_plain x HPL.out).symm hown ((pw_below_drewN HJ.out.bel nd).trans hbel)); clear hown hbel hgr hat)))
            go_roundg (L.length - (i + 1))
            case measure => have := HG.out; omega
            case rel => exact ⟨i + 1, rfl, by omega, rfl, HN.out⟩
    · obtain rfl : i = L.length := by omega
      obtain ⟨hown, hbel, hmay⟩ := HJ.out
      rw [List.take_of_length_le (Nat.le_refl _)] at hown hmay
      obtain ⟨g, cap, hv, hcap, hcl, hgb⟩ := strs_form hown hL
      subst hv
      have hjl : (Lib.join (((L.map bl).map WP.qt).map (fun b => (ba b).data.toList)) [32]).length ≤ 140737488355328 := by
        rw [join_sep]
        exact Nat.le_trans (sep_len (L.map bl) (by simpa using h16) (fun x hx => by obtain ⟨y, hy, rfl⟩ := List.mem_map.1 hx; have := HSZ.out y hy; simpa [bl] using this)) (by decide)
      have CJ := Tryz.strings_Join g 0 cap (((L.map bl).map WP.qt).map ba) ⟨#[32]⟩ wr (fun j x hj => by rw [Nat.zero_add]; exact hcl j x (by simpa [List.map_map, Function.comp_def] using hj)) hgb (by simp; omega) (by simpa using hcap) (by rw [List.map_map]; exact hjl)
      rw [show ((List.map WP.qt (List.map bl L)).map ba).length = L.length by simp] at CJ
      rw [List.map_map, show (Lib.join (List.map ((fun x => x.data.toList) ∘ ba) (List.map WP.qt (List.map bl L))) (ByteArray.data ⟨#[32]⟩).toList) = WP.sep ((L.map bl).map WP.qt) from join_sep _] at CJ
      have hres : WP.join (L.map bl) = if 256 < (WP.sep ((L.map bl).map WP.qt)).length then [] else WP.sep ((L.map bl).map WP.qt) := by
        unfold WP.join
        rw [if_neg (by simpa using h16), if_neg]
        rw [Bool.not_eq_false, List.all_eq_true]
        intro x hx
        obtain ⟨y, hy, rfl⟩ := List.mem_map.1 hx
        exact hmay y hy
      have HRES := Lib.hid hres
      have HCJ := Lib.hid CJ
      have HBL := Lib.hid hbel
      clear hres CJ hbel hown hmay hcl hjl hcap
      generalize hsep : WP.sep ((L.map bl).map WP.qt) = sp at HCJ HRES
      have hsl : (⟨sp.toArray⟩ : ByteArray).size = sp.length := by show sp.toArray.size = _; rw [List.size_toArray]
      by_cases hbig : 256 < sp.length
      · have hq : (256 : Int) < (sp.length : Int) := by omega
        have hr := HRES.out
        rw [if_pos hbig] at hr
        have HR := Lib.hid hr
        clear hr hbig hsl hsep
        go_wp2_with (go_at_call 52; refine HCJ.out.mono ?_; rintro e w1 ⟨rfl, hb1⟩; have HB1 := Lib.hid hb1; clear hb1)
        go_ret
        have hfin : Ending.returned (.string ⟨#[]⟩) = Ending.returned (.string (ba (WP.join (L.map bl)))) := by rw [HR.out]; rfl
        exact ⟨hfin, below_then HBL.out HBL.out.size HB1.out⟩
      · have hq : ¬ (256 : Int) < (sp.length : Int) := by omega
        have hr := HRES.out
        rw [if_neg hbig] at hr
        have HR := Lib.hid hr
        clear hr hbig hsl hsep
        go_wp2_with (go_at_call 52; refine HCJ.out.mono ?_; rintro e w1 ⟨rfl, hb1⟩; have HB1 := Lib.hid hb1; clear hb1)
        go_ret
        have hfin : Ending.returned (.string ⟨sp.toArray⟩) = Ending.returned (.string (ba (WP.join (L.map bl)))) := by rw [HR.out]; rfl
        exact ⟨hfin, below_then HBL.out HBL.out.size HB1.out⟩
set_option maxRecDepth 100000 in
set_option maxHeartbeats 4000000 in
theorem join_many (A0 : Option Addr) (n c : Nat) (L : List ByteArray) (hn : L.length = n) (w : World) (h16 : 16 < n) :
    Calls Tryz.prog 41 #[.slice A0 n c] w fun e w' => e = .returned (.string (ba (WP.join (L.map bl)))) ∧ Below w.heap.size w w' := by
  have hr : WP.join (L.map bl) = [] := by unfold WP.join; rw [if_pos (by simp; omega)]
  have HR := Lib.hid hr
  have hq : (16 : Int) < (n : Int) := by omega
  clear hr hn h16
  go_enter Tryz.func41, Tryz.ntmps41
  go_wp2_with fail
  go_ret
  have hfin : Ending.returned (.string ⟨#[]⟩) = Ending.returned (.string (ba (WP.join (L.map bl)))) := by rw [HR.out]; rfl
  exact ⟨hfin, Below.refl _ _⟩
set_option maxRecDepth 100000 in
set_option maxHeartbeats 4000000 in
theorem join_empty (A0 : Option Addr) (c : Nat) (w : World) :
    Calls Tryz.prog 41 #[.slice A0 0 c] w fun e w' => e = .returned (.string (ba (WP.join []))) ∧ Below w.heap.size w w' := by
  have HJ := Lib.hid (fun w => Tryz.strings_Join_none none 0 ⟨#[32]⟩ w)
  go_enter Tryz.func41, Tryz.ntmps41
  go_wp2_with fail
  refine wp_loop_rounds 1 ?_
  rw [rounds_succ]
  go_wp2_with (go_at_call 52; refine (HJ.out _).mono ?_; rintro e w1 ⟨rfl, rfl⟩)
  go_ret
  exact ⟨rfl, Below.refl _ _⟩
def words_Join.f (l0 : List ByteArray) : Option ByteArray := if 16 < l0.length ∨ l0.all (fun x => decide (x.size ≤ 2000)) = true then some (ba (WP.join (l0.map bl))) else none
theorem words_Join.calls (A0 : Option Addr) (c0 : Nat) (l0 : List ByteArray) (r : ByteArray) (w : World) (hr0 : Kd.C Kd.string w A0 l0.length l0) (hc0 : l0.length ≤ c0) (h : words_Join.f l0 = some r) :
    Calls Tryz.prog 41 #[.slice A0 l0.length c0] w fun e w' => e = .returned (.string r) ∧ Below w.heap.size w w' := by
  unfold words_Join.f at h
  split at h
  · rename_i hs
    cases Option.some.inj h
    by_cases h16 : 16 < l0.length
    · exact join_many A0 l0.length c0 l0 rfl w h16
    replace hs := hs.resolve_left h16
    by_cases h0 : l0 = []
    · subst h0
      exact join_empty A0 c0 w
    have hl : 0 < l0.length := List.length_pos_iff.2 h0
    obtain ⟨ad, rfl, hcell⟩ := hr0.2.2 hl
    have hcells : ∀ (j : Nat) x, l0[j]? = some x → w.cell? (ad.add j) = some (.string x) := by
      intro j x hj
      obtain ⟨c, _, hK, hu⟩ := hcell j x hj
      have hK' : c = [Value.string x] := hK
      subst hK'
      have := hu 0 _ rfl
      have e : j * Kd.string.sz + 0 = j := by show j * 1 + 0 = j; omega
      rwa [e] at this
    have hz := hcells 0 _ (List.getElem?_eq_getElem hl)
    have hsp : ad.spot = none := by
      have : ad.add 0 = ad := by simp [Addr.add]
      rw [this] at hz
      unfold World.cell? at hz
      split at hz
      · split at hz
        · cases hz
        · rename_i h; simpa using h
      · cases hz
    have hbk : ad.block < w.heap.size := by
      have := World.block_lt_of_cell? _ _ hz
      simpa [Addr.add] using this
    have hadd : ∀ j, ad.add j = ⟨ad.block, ad.off + j, none⟩ := by
      intro j
      unfold Addr.add
      split
      · rename_i h; subst h; cases ad; simp at hsp; simp [hsp]
      · rfl
    have e : (some ad : Option Addr) = some ⟨ad.block, ad.off, none⟩ := by cases ad; simp at hsp; simp [hsp]
    rw [e]
    exact join_walk ad.block ad.off c0 l0 w hl (by omega) (fun j x hj => by rw [← hadd]; exact hcells j x hj) hbk (fun x hx => by have := List.all_eq_true.1 hs x hx; simpa using this)
  · cases h
end Go.Proofs.YtlglbpjccpdloaaGreatDoor.Ext
set_option linter.unusedVariables false
namespace Go.Proofs.YtlglbpjccpdloaaGreatDoor.ToxZ
open Go.RowKit Go.Proofs.YtlglbpjccpdloaaGreatDoorW.PrintWords Go.Proofs.YtlglbpjccpdloaaGreatDoorW.PrintLast Go.Proofs.YtlglbpjccpdloaaGreatDoor.Ext
def chicaneref01_Text.f (a0 : Int) : Option ByteArray := some (tickText a0)
end Go.Proofs.YtlglbpjccpdloaaGreatDoor.ToxZ
set_option linter.unusedVariables false
set_option linter.unusedSimpArgs false
namespace Go.Proofs.YtlglbpjccpdloaaGreatDoor.Tox
open Go.RowKit Go.Shelf Go.Proofs.YtlglbpjccpdloaaGreatDoor.Ext Go.Proofs.YtlglbpjccpdloaaGreatDoor.ToxRef Go.Proofs.YtlglbpjccpdloaaGreatDoorW.PrintWords Go.Proofs.YtlglbpjccpdloaaGreatDoorW.PrintLast
theorem refsplit_parts (s : ByteArray) (w : World) (hs : s.size ≤ 1000000000) :
    Calls Tryz.prog 40 #[.string s] w fun e w' => ∃ g cap, e = .returned (.slice (some ⟨g, 0, none⟩) (parts s).length cap) ∧
      (∀ j, j < (parts s).length → w'.cell? ⟨g, j, none⟩ = some (.string ((parts s).getD j ByteArray.empty))) ∧ w.heap.size ≤ g ∧ Below w.heap.size w w' := by
  refine (refsplit_own s w hs).mono ?_
  rw [Cut.spl_is]
  rintro e w' ⟨g, cap, rfl, hown, hg, hb⟩
  refine ⟨g, cap, rfl, fun j hj => ?_, hg, hb⟩
  obtain ⟨hl, h2⟩ := hown
  rcases h2 with ⟨h2, _⟩ | ⟨g', cap', cur, h3, _, hh, hn, _, hs, ht⟩
  · cases h2
  · simp only [Value.slice.injEq, Option.some.injEq, Addr.mk.injEq] at h3
    obtain ⟨⟨rfl, _⟩, _, rfl⟩ := h3
    rw [cell_of_cells hh, ← Array.getElem?_toList, ← List.getElem?_take_of_lt (show j < (parts s).length * 1 by omega), ht]
    simp [hj]
theorem below_alloc1 {w W : World} {o : Obj} (h : Below (w.alloc o).heap.size (w.alloc o) W) : Below w.heap.size w W :=
  ((Below.refl _ w).alloc (Nat.le_refl _) o).trans (h.mono (by simp))
theorem part_ne {l : List ByteArray} (h : (⟨#[]⟩ : ByteArray) ∉ l) (j : Nat) (hj : j < l.length) : ((l.getD j ByteArray.empty).toList == []) = false := by
  rw [Bool.eq_false_iff]
  intro h2
  apply h
  have e : l.getD j ByteArray.empty = l[j] := by simp [hj]
  rw [e, beq_iff_eq] at h2
  have : l[j] = ⟨#[]⟩ := (toList_eq_iff _ _).1 (by rw [h2, ByteArray.toList_eq])
  rw [← this]
  exact List.getElem_mem hj
theorem con_no {l : List ByteArray} (h : (⟨#[]⟩ : ByteArray) ∉ l) : Lib.containsS l ⟨#[]⟩ = false := by
  rw [Bool.eq_false_iff]
  intro h2
  exact h ((ToxPlain.contains_iff l _).1 h2)
theorem cut_len (c : UInt8) : ∀ (l : List UInt8), ∀ x ∈ Cut.cutL c l, x.length ≤ l.length := by
  intro l
  induction l with
  | nil => intro x hx; simp [Cut.cutL] at hx; subst hx; exact Nat.le_refl _
  | cons b l ih =>
    intro x hx
    unfold Cut.cutL at hx
    split at hx
    · rcases List.mem_cons.1 hx with rfl | h
      · exact Nat.zero_le _
      · have := ih x h; simp; omega
    · split at hx
      · rename_i h; exact absurd h (Cut.cutL_ne c l)
      · rename_i y ys hq
        rw [hq] at ih
        rcases List.mem_cons.1 hx with rfl | h
        · have := ih y (by simp); simp; omega
        · have := ih x (by simp [h]); simp; omega
theorem parts_size (s : ByteArray) (hs : s.size ≤ 1000000000) : ∀ j, j < (parts s).length → ((parts s).getD j ByteArray.empty).size ≤ 4611686018427387904 := by
  intro j hj
  have e : (parts s).getD j ByteArray.empty = (parts s)[j] := by simp [hj]
  rw [e]
  have hm : (parts s)[j].data.toList ∈ (parts s).map (·.data.toList) := List.mem_map.2 ⟨_, List.getElem_mem hj, rfl⟩
  rw [Cut.parts_data] at hm
  have := cut_len 32 _ _ hm
  have e1 : (parts s)[j].size = (parts s)[j].data.toList.length := by cases (parts s)[j]; rfl
  have e2 : s.size = s.data.toList.length := by cases s; rfl
  omega
def NV (l : List ByteArray) (i : Nat) : List Value := (List.range (i - 3)).map fun j => .int .i64 (pn l j)
theorem NV_succ (l : List ByteArray) (i : Nat) (h : 3 ≤ i) : NV l (i + 1) = NV l i ++ [.int .i64 (pn l (i - 3))] := by
  unfold NV
  rw [show i + 1 - 3 = (i - 3) + 1 by omega, List.range_succ, List.map_append]
  rfl
def RR (l : List ByteArray) (w1 : World) (nv jv : Value) (wr : World) : Prop :=
  ∃ (i : Nat) (nv' : Value), nv' = nv ∧ jv = .int .i64 i ∧ 3 ≤ i ∧ i ≤ l.length ∧ wr.ownsRow 0 3 1 nv (i - 3) (NV l i) ∧ (∀ b, nv.ownBlock = some b → w1.heap.size ≤ b) ∧ Below w1.heap.size w1 wr ∧ ∀ j, j + 3 < i → pe l j = 0
theorem refparse_end {tmps : Array Value} {W : World} {w : World} {cs : Array Value} {e : Value} {df : List Deferred} (hp : tmps.getD 2 undef = .pointer (some ⟨w.heap.size, 0, none⟩)) (he : tmps.getD 3 undef = e)
    (hg : W.heap[w.heap.size]? = some (.cells cs 25 (0, 0))) (hz : cs.size = 6) (hb : Below w.heap.size w W) (r : Res7) (hr : tup7 r = .tuple #[.agg cs, e]) (hdf : df = []) :
    bodyPost Tryz.prog Tryz.f54 (fun e w' => e = Ending.returned (tup7 r) ∧ Below w.heap.size w w') Exit.ret { tmps := tmps, defers := df } W := by
  subst hdf
  refine bodyPost_ret (v := .tuple #[.agg cs, e]) ?_ rfl ⟨by rw [hr], hb⟩
  rw [← he]
  exact results_ct rfl hp hg Tryz.underlying25 rfl (by rw [hz]; kernel_rfl)
end Go.Proofs.YtlglbpjccpdloaaGreatDoor.Tox
set_option linter.unusedVariables false
set_option linter.unusedSimpArgs false
namespace Go.Proofs.YtlglbpjccpdloaaGreatDoor.Tox
open Go.RowKit Go.Shelf Go.Proofs.YtlglbpjccpdloaaGreatDoor.Ext Go.Proofs.YtlglbpjccpdloaaGreatDoor.ToxRef Go.Proofs.YtlglbpjccpdloaaGreatDoorW.PrintWords Go.Proofs.YtlglbpjccpdloaaGreatDoorW.PrintLast
set_option maxHeartbeats 16000000 in
set_option maxRecDepth 100000 in
theorem refparse_up (s : ByteArray) (w : World) (hs : s.size ≤ 1000000000) (hl5 : ¬ (parts s).length < 5) (hl6 : ¬ 6 < (parts s).length) (hcon : ⟨#[]⟩ ∉ parts s) (hu : ((parts s).getD 2 ByteArray.empty).toList = [117, 112]) :
    Calls Tryz.prog 54 #[.string s] w fun e w' => e = .returned (tup7 (parseOf s)) ∧ Below w.heap.size w w' := by
  have HS := Lib.hid (fun w => refsplit_parts s w hs)
  have hsz := parts_size s hs
  unfold parseOf
  obtain ⟨l, hpl⟩ : ∃ l, parts s = l := ⟨_, rfl⟩
  rw [hpl] at hsz HS hl5 hl6 hcon hu
  rw [hpl]
  obtain ⟨x2, hx2⟩ : ∃ x2, l.getD 2 ByteArray.empty = x2 := ⟨_, rfl⟩
  rw [hx2] at hu
  have HX2 := Lib.hid hx2
  have HCON := Lib.hid hcon
  have HSZ := Lib.hid hsz
  have HL := Lib.hid (And.intro hl5 hl6)
  obtain ⟨r7, hr7⟩ : ∃ r7, parse1 l = r7 := ⟨_, rfl⟩
  rw [hr7]
  have HR7 := Lib.hid hr7
  clear hpl hs hsz hx2 hl5 hl6 hr7 hcon
  have hway := way_up hu
  go_enter Tryz.func54, Tryz.ntmps54
  go_wp2_with (first | (go_at_call 40; refine (HS.out _).mono ?_; rintro e w1 ⟨g, cap, rfl, hcell, hg, hb⟩; have HCELL := Lib.hid hcell; have HB0 := Lib.hid ((hb.block _ (by simp)).trans (heap_new w _)); have HW1 := Lib.hid (below_alloc1 hb); have HG := Lib.hid hg; clear hcell hb hg) | fail)
  go_loopw [5] (fun jv wr => ∃ j : Nat, jv = .int .i64 j ∧ j ≤ l.length ∧ w1 = wr) (fun jv _ => l.length - (intOf jv).toNat)
  case atStart => exact ⟨0, rfl, Nat.zero_le _, rfl⟩
  case round =>
    obtain ⟨j, rfl, hj, rfl⟩ := hrel
    by_cases hjn : j < l.length
    · have q3 : (j : Int) < (l.length : Int) := by omega
      have hj6 : (j : Int) ≤ 6 := by have := HL.out; omega
      have hcj := HCELL.out j hjn
      have hne : ((l.getD j ByteArray.empty).toList == []) = false := part_ne HCON.out j hjn
      obtain ⟨xj, hxj⟩ : ∃ xj, l.getD j ByteArray.empty = xj := ⟨_, rfl⟩
      rw [hxj] at hcj hne
      clear hxj
      go_wp2_with fail
      go_roundw
      case measure => simp [intOf]; omega
      · exact ⟨j + 1, by simp, by omega, trivial⟩
    · obtain rfl : j = l.length := by omega
      have q3 : ¬ (l.length : Int) < (l.length : Int) := by omega
      go_upto_region 7 with fail
      go_cut [4, 5, 33] (fun s4 s5 s33 wx => s4 = .slice (some ⟨g, 0, none⟩) l.length cap ∧ s33 = .bool false ∧ w1 = wx)
      case first =>
        have h56 : l.length = 5 ∨ l.length = 6 := by have := HL.out; omega
        rcases h56 with h56 | h56
        · have q5 : ((l.length : Int) != 5) = false := by simp [h56]
          have H56 := Lib.hid h56
          clear h56
          go_wp2_with fail
          go_meet
          exact ⟨by rw [H56.out], rfl, rfl⟩
        · have q5 : ((l.length : Int) != 5) = true := by simp [h56]
          have q6 : ((l.length : Int) != 6) = false := by simp [h56]
          have H56 := Lib.hid h56
          clear h56
          go_wp2_with fail
          go_meet
          exact ⟨by rw [H56.out], rfl, rfl⟩
      case rest =>
        obtain ⟨rfl, rfl, rfl⟩ := hcut
        have hc2 := HCELL.out 2 (by have := HL.out; omega)
        rw [HX2.out] at hc2
        have i2 : (2 : Int) < (l.length : Int) := by have := HL.out; omega
        go_wp2_with fail
        go_loopw [6, 7] (fun nv jv wr => RR l w1 nv jv wr) (fun _ jv _ => l.length - (intOf jv).toNat)
        case atStart => exact ⟨3, _, rfl, rfl, Nat.le_refl _, by have := HL.out; omega, ⟨rfl, .inl ⟨rfl, rfl⟩⟩, (fun b hb => by cases hb), Below.refl _ w1, fun i hi => absurd hi (by omega)⟩
        case round =>
          obtain ⟨i, nv, rfl, rfl, hi3, hil, hown, hnb, hbw, herr⟩ := hrel
          have HOWN := Lib.hid hown
          have HNB := Lib.hid hnb
          have HBW := Lib.hid hbw
          have HERR := Lib.hid herr
          clear hown hnb hbw herr hc2
          by_cases hjn : i < l.length
          · have q6 : (i : Int) < (l.length : Int) := by omega
            have hcj := cell_later HBW.out (HCELL.out i hjn)
            obtain ⟨xj, hxj⟩ : ∃ xj, l.getD i ByteArray.empty = xj := ⟨_, rfl⟩
            rw [hxj] at hcj
            have hsj : xj.size ≤ 4611686018427387904 := by rw [← hxj]; exact HSZ.out i hjn
            obtain ⟨r1, r2, hp⟩ : ∃ r1 r2, tickParse xj = (r1, r2) := ⟨_, _, rfl⟩
            have HP := Lib.hid (ToxZ.chicaneref01_Parse.calls xj r1 r2 wr (by rw [ToxZ.chicaneref01_Parse.f, if_pos hsj, hp]))
            have HXJ := Lib.hid hxj
            have HPP := Lib.hid hp
            have HIX := Lib.hid (show 3 + (i - 3) = i by omega)
            clear hxj hp hsj
            by_cases hr2 : r2 = 0
            · subst hr2
              go_wp2_with (first | (go_at_call 32; refine HP.out.mono ?_; rintro e w2 ⟨rfl, hb2⟩; have HB2 := Lib.hid hb2; clear hb2) | (at_builtin; refine holdL ?_) | fail)
              refine HoldL.go ?_
              have hl6 := HL.out
              refine append_one rfl _ _ 96 3 (.int .i64 0) 1 8 rfl Tryz.underlying96 (by kernel_rfl) rfl (by omega) (by omega) nv (i - 3) (NV l i) #[.int .i64 r1] w2.heap.size rfl rfl rfl rfl (by simp [Value.oneCell']) (pw_own_below HOWN.out HB2.out) (by omega) ?_
              intro v1 w3 hown2 hg2 hat2
              have hb3 : Below w1.heap.size w1 w3 := (HBW.out.trans (HB2.out.mono HBW.out.size)).grown hg2 (Nat.le_trans HBW.out.size HB2.out.size) HNB.out
              have hnb3 : ∀ b, v1.ownBlock = some b → w1.heap.size ≤ b := by
                intro b hb
                rcases hat2 with e | e
                · rw [e] at hb; exact HNB.out b hb
                · rw [e] at hb; have := Nat.le_trans HBW.out.size HB2.out.size; simp at hb; omega
              have hnv : NV l (i + 1) = NV l i ++ [.int .i64 r1] := by
                have h1 := HXJ.out
                have h2 := HPP.out
                have : pn l (i - 3) = r1 := by unfold pn; rw [HIX.out, h1, h2]
                rw [NV_succ l i hi3, this]
              have hown3 : w3.ownsRow 0 3 1 v1 (i + 1 - 3) (NV l (i + 1)) := by
                rw [hnv, show i + 1 - 3 = (i - 3) + 1 by omega]; exact hown2
              have herr3 : ∀ j, j + 3 < i + 1 → pe l j = 0 := by
                intro j hj
                by_cases hij : j + 3 = i
                · have h1 := HXJ.out
                  have h2 := HPP.out
                  unfold pe
                  rw [show 3 + j = i by omega, h1, h2]
                · exact HERR.out j (by omega)
              have HO3 := Lib.hid hown3
              have HB3 := Lib.hid hb3
              have HN3 := Lib.hid hnb3
              have HE3 := Lib.hid herr3
              clear hown2 hg2 hat2 hb3 hnb3 hnv hown3 herr3
              go_wp2_with fail
              go_roundw
              case measure => simp [intOf]; omega
              · exact ⟨i + 1, _, rfl, by simp, by omega, by omega, HO3.out, HN3.out, HB3.out, HE3.out⟩
            · have q4 : (r2 != 0) = true := by simpa using hr2
              have hb02 := (HBW.out.block _ (lt_of_heap HB0.out)).trans HB0.out
              have HB2 := Lib.hid hr2
              clear hr2
              go_wp2_with (first | (go_at_call 32; refine HP.out.mono ?_; rintro e w2 ⟨rfl, hb2⟩; have hbw2 := HBW.out.trans (hb2.mono HBW.out.size); have hr0 := (hb2.block _ (lt_of_heap hb02)).trans hb02; obtain ⟨z0, z1, z2, z3, z4, z5, zf⟩ := six_cells hr0) | fail)
              have hr7 := HR7.out
              have hl := HL.out
              rw [parse1_bad l (i - 3) hl (by omega) (by have h1 := HXJ.out; have h2 := HPP.out; unfold pe; rw [HIX.out, h1, h2]; exact HB2.out)] at hr7
              subst hr7
              exact refparse_end rfl rfl (six_set hr0) rfl (six_below (HW1.out.trans (hbw2.mono HW1.out.size))) _ rfl rfl
          · obtain rfl : i = l.length := by omega
            have q6 : ¬ (l.length : Int) < (l.length : Int) := by omega
            have hl := HL.out
            obtain ⟨gn, capn, rfl⟩ := own_form HOWN.out (by omega)
            obtain ⟨x0, hx0⟩ : ∃ x0, l.getD 0 ByteArray.empty = x0 := ⟨_, rfl⟩
            obtain ⟨x1, hx1⟩ : ∃ x1, l.getD 1 ByteArray.empty = x1 := ⟨_, rfl⟩
            have hc0 := cell_later HBW.out (HCELL.out 0 (by omega))
            have hc1 := cell_later HBW.out (HCELL.out 1 (by omega))
            have hc2 := cell_later HBW.out (HCELL.out 2 (by omega))
            rw [hx0] at hc0
            rw [hx1] at hc1
            rw [HX2.out] at hc2
            obtain ⟨nn, hnn⟩ : ∃ nn, l.length - 3 = nn := ⟨_, rfl⟩
            have hnv : ∀ j, j < nn → (NV l l.length)[j]? = some (.int .i64 (pn l j)) := by
              intro j hj
              unfold NV
              rw [List.getElem?_map, List.getElem?_range (by omega)]
              rfl
            obtain ⟨a0, ha0⟩ : ∃ a0, pn l 0 = a0 := ⟨_, rfl⟩
            obtain ⟨a1, ha1⟩ : ∃ a1, pn l 1 = a1 := ⟨_, rfl⟩
            rw [hnn] at HOWN
            rw [hnn]
            have hd0 : wr.cell? ⟨gn, 0, none⟩ = some (.int .i64 a0) := by rw [(own_cells HOWN.out 0 (by omega)).1, hnv 0 (by omega), ha0]
            have hd1 : wr.cell? ⟨gn, 1, none⟩ = some (.int .i64 a1) := by rw [(own_cells HOWN.out 1 (by omega)).1, hnv 1 (by omega), ha1]
            have HX0 := Lib.hid hx0
            have HX1 := Lib.hid hx1
            have HA0 := Lib.hid ha0
            have HA1 := Lib.hid ha1
            have HNV := Lib.hid hnv
            have HNN := Lib.hid hnn
            obtain ⟨kd, hkd⟩ : ∃ kd, kindOf x1 = kd := ⟨_, rfl⟩
            have HKC := Lib.hid (fun w => ToxZ.chicaneref09_Kind.calls x1 kd w (by rw [← hkd]; rfl))
            have HKD := Lib.hid hkd
            have i0 : 0 < l.length := by omega
            have i1 : (1 : Int) < (l.length : Int) := by omega
            have i2 : (2 : Int) < (l.length : Int) := by omega
            have m0 : 0 < nn := by omega
            have m1 : (1 : Int) < (nn : Int) := by omega
            have hn3 : nn ≤ 3 := by omega
            clear hx0 hx1 ha0 ha1 hnv hkd hl hnn
            have n1 : wr.heap.size ≠ g := World.new_ne wr _ hc0
            have n2 : wr.heap.size ≠ gn := World.new_ne wr _ hd0
            go_upto_region 19 with fail
            go_cut [10] (fun s10 wx' => ∃ (h : Nat) (wx : World), wx = wx' ∧ s10 = .pointer (some ⟨h, 0, none⟩) ∧ wx.heap[h]? = some (.cells #[.string x0, .int .i64 kd, .bool true, .int .i64 a0, .int .i64 a1, .int .i64 0] 25 (0, 0)) ∧ Below wr.heap.size wr wx ∧ wr.heap.size ≤ h)
            case first =>
              go_region_held3 (fun W => W.cell? ⟨g, 0, none⟩ = some (.string x0) ∧ W.cell? ⟨g, 1, none⟩ = some (.string x1) ∧ W.cell? ⟨g, 2, none⟩ = some (.string x2) ∧
                  W.cell? ⟨gn, 0, none⟩ = some (.int .i64 a0) ∧ W.cell? ⟨gn, 1, none⟩ = some (.int .i64 a1))
                (go_keep)
                (first | (go_at_call 81; refine (HKC.out _).mono ?_; rintro e w3 ⟨rfl, hb3⟩; obtain ⟨g0, g1, g2, g3, g4⟩ := ‹_ ∧ _ ∧ _ ∧ _ ∧ _›; have k0 := cell_later hb3 g0; have k1 := cell_later hb3 g1; have k2 := cell_later hb3 g2; have k3 := cell_later hb3 g3; have k4 := cell_later hb3 g4; have n3 := World.new_ne w3 _ k0; have n4 := World.new_ne w3 _ k3; have hbq := below_undrew hb3; have HBR : Hid (Below wr.heap.size wr w3) := Lib.hid (by first | (with_reducible exact hbq) | (with_reducible exact ((Below.refl _ wr).alloc (Nat.le_refl _) _).trans (hbq.mono (by simp)))); clear hbq; have HAL := Lib.hid (heap_new w3); (try (have hzr := (hb3.block wr.heap.size (by simp)).trans (heap_new wr _); have zz := six_cells (W := w3) (B := wr.heap.size) hzr; obtain ⟨z0, z1, z2, z3, z4, z5, zf⟩ := zz; have HZR := Lib.hid hzr; clear hzr))))
              all_goals
                go_wp2_with fail
                go_meet
                refine ⟨_, _, rfl, rfl, ?_, ?_, ?_⟩
                · first
                  | with_reducible exact HAL.out _
                  | with_reducible exact six_set HZR.out
                · first
                  | with_reducible exact fin_a HBR.out
                  | with_reducible exact six_below_at HBR.out
                · first
                  | with_reducible exact Nat.le_refl _
                  | with_reducible exact HBR.out.size
            case rest =>
              obtain ⟨h, wx, rfl, rfl, hg, hbx, hgl⟩ := hcut
              obtain ⟨y0, y1, y2, y3, y4, y5, yf⟩ := six_cells hg
              have HGX := Lib.hid hg
              have HBX := Lib.hid hbx
              have HGL := Lib.hid hgl
              clear hg hbx hgl n1 n2 hc0 hc1 hc2
              by_cases h6 : l.length = 6
              · have q7 : (2 : Int) < (nn : Int) := by have := HNN.out; omega
                obtain ⟨a2, ha2⟩ : ∃ a2, pn l 2 = a2 := ⟨_, rfl⟩
                have hd2 : wr.cell? ⟨gn, 2, none⟩ = some (.int .i64 a2) := by rw [(own_cells HOWN.out 2 (by omega)).1, HNV.out 2 (by omega), ha2]
                have hd2x := cell_later HBX.out hd2
                have HV2 : Hid (valsOf l 2 = a2) := Lib.hid (by rw [vals_in l 2 (by omega), ha2])
                have HN6 := Lib.hid h6
                clear ha2 hd0 hd1 hd2 h6
                have pre := q7
                go_upto_region 22 with fail
                obtain ⟨wz, hwz⟩ : ∃ wz, wx.setCell ⟨h, 5, none⟩ (.int .i64 a2) = wz := ⟨_, rfl⟩
                rw [hwz]
                have hg : wz.heap[h]? = some (.cells #[.string x0, .int .i64 kd, .bool true, .int .i64 a0, .int .i64 a1, .int .i64 a2] 25 (0, 0)) := by rw [← hwz]; exact heap_set_eq (i := 5) _ (.int .i64 a2) HGX.out
                have hbz : Below wr.heap.size wr wz := by rw [← hwz]; exact HBX.out.setCell HGL.out _
                clear hwz
                · skip
                  clear y0 y1 y2 y3 y4 y5 yf
                  obtain ⟨y0, y1, y2, y3, y4, y5, yf⟩ := six_cells hg
                  have hbw3 := (HBW.out.trans (hbz.mono HBW.out.size))
                  have hres := (hbw3.block _ (lt_of_heap HB0.out)).trans HB0.out
                  have HG := Lib.hid hg
                  have HBZ := Lib.hid hbw3
                  have HRES := Lib.hid hres
                  obtain ⟨nm, hnm⟩ : ∃ nm, numOf kd = nm := ⟨_, rfl⟩
                  have HNM := Lib.hid (fun w => ToxZ.chicaneref09_Numbers.calls kd nm w (by rw [← hnm]; rfl))
                  have hnb : 0 ≤ nm ∧ nm ≤ 2 := by rw [← hnm]; unfold numOf; split <;> (try split) <;> omega
                  obtain ⟨hn0, hn2⟩ := hnb
                  have HN := Lib.hid hnm
                  clear hg hbz hbw3 hres hnm
                  have GOOD : Hid (parse1 l = parse2 l) := Lib.hid (parse1_good l HL.out (con_no HCON.out) (by rw [HX2.out]; exact hway) (fun j hj => HERR.out j (by omega)))
                  by_cases hk0 : kd = 0
                  · have qk : (kd == 0) = true := by simp [hk0]
                    have HK0 := Lib.hid hk0
                    clear hk0
                    obtain ⟨z0, z1, z2, z3, z4, z5, zf⟩ := six_cells HRES.out
                    go_wp2_with fail
                    have hr7 := HR7.out
                    rw [GOOD.out, parse2_noKind l (by rw [HX1.out, HKD.out]; exact HK0.out)] at hr7
                    subst hr7
                    exact refparse_end rfl rfl (six_set HRES.out) rfl (six_below (HW1.out.trans (HBZ.out.mono HW1.out.size))) _ rfl rfl
                  · have qk : (kd == 0) = false := by simp [hk0]
                    have HK0 := Lib.hid hk0
                    clear hk0
                    by_cases hln : (nn : Int) = 1 + nm
                    · have ql : ((nn : Int) != 1 + nm) = false := by simp [hln]
                      have hl := HL.out
                      have hln' : (l.length : Int) = 4 + nm := by have := HNN.out; omega
                      have hv0 : valsOf l 0 = a0 := by rw [vals_in l 0 (by omega), HA0.out]
                      have hv1 : valsOf l 1 = a1 := by rw [vals_in l 1 (by omega), HA1.out]
                      obtain ⟨ev, hev⟩ : ∃ ev, checkOf x0 kd true a0 a1 a2 = ev := ⟨_, rfl⟩
                      have hpc := parse2_check l x0 kd true a0 a1 a2 ev (by rw [HX1.out, HKD.out]) HX0.out (by rw [HX2.out]; simp [← toList_eq_iff, hu]) HK0.out (by rw [HN.out]; exact hln') hv0 hv1 HV2.out hev
                      have hs0 : x0.size ≤ 9223372036854775807 := by rw [← HX0.out]; exact Nat.le_trans (HSZ.out 0 (by omega)) (by decide)
                      have HCC := Lib.hid (fun w => ToxZ.chicaneref09_Check.calls x0 kd true a0 a1 a2 ev w (by rw [ToxZ.chicaneref09_Check.f, if_pos hs0, hev]))
                      have hr7 := HR7.out
                      rw [GOOD.out, hpc] at hr7
                      have HR8 := Lib.hid hr7
                      clear hpc hev hv0 hv1 hln hr7 hs0 hl hln'
                      by_cases he0 : ev = 0
                      · subst he0
                        have hr8 := HR8.out
                        rw [if_pos rfl] at hr8
                        subst hr8
                        go_wp2_with (first | (go_at_call 82; refine (HNM.out _).mono ?_; rintro e w4 ⟨rfl, hb4⟩; have hg4 := (hb4.block _ (lt_of_heap HG.out)).trans HG.out; obtain ⟨y0, y1, y2, y3, y4, y5, yf⟩ := six_cells hg4) | (go_at_call 62; refine (HCC.out _).mono ?_; rintro e w5 ⟨rfl, hb5⟩; have hg5 := (hb5.block _ (lt_of_heap hg4)).trans hg4; obtain ⟨yy0, yy1, yy2, yy3, yy4, yy5, yyf⟩ := six_cells hg5; have hr4 := (hb4.block _ (lt_of_heap HRES.out)).trans HRES.out; have hr5 := (hb5.block _ (lt_of_heap hr4)).trans hr4; obtain ⟨z0, z1, z2, z3, z4, z5, zf⟩ := six_cells hr5) | fail)
                        have hbb := HW1.out.trans (HBZ.out.mono HW1.out.size)
                        have hbc := hbb.trans (hb4.mono hbb.size)
                        exact refparse_end rfl rfl (six_set hr5) rfl (six_below (hbc.trans (hb5.mono hbc.size))) _ rfl rfl
                      · have qe : (ev != 0) = true := by simpa using he0
                        have hr8 := HR8.out
                        rw [if_neg he0] at hr8
                        subst hr8
                        clear he0
                        go_wp2_with (first | (go_at_call 82; refine (HNM.out _).mono ?_; rintro e w4 ⟨rfl, hb4⟩; have hg4 := (hb4.block _ (lt_of_heap HG.out)).trans HG.out; obtain ⟨y0, y1, y2, y3, y4, y5, yf⟩ := six_cells hg4) | (go_at_call 62; refine (HCC.out _).mono ?_; rintro e w5 ⟨rfl, hb5⟩; have hr4 := (hb4.block _ (lt_of_heap HRES.out)).trans HRES.out; have hr5 := (hb5.block _ (lt_of_heap hr4)).trans hr4; obtain ⟨z0, z1, z2, z3, z4, z5, zf⟩ := six_cells hr5) | fail)
                        have hbb := HW1.out.trans (HBZ.out.mono HW1.out.size)
                        have hbc := hbb.trans (hb4.mono hbb.size)
                        exact refparse_end rfl rfl (six_set hr5) rfl (six_below (hbc.trans (hb5.mono hbc.size))) _ rfl rfl
                    · have ql : ((nn : Int) != 1 + nm) = true := by simpa using hln
                      have HLN : Hid ((l.length : Int) ≠ 4 + nm) := Lib.hid (by have := HNN.out; have := HL.out; omega)
                      clear hln
                      go_wp2_with (first | (go_at_call 82; refine (HNM.out _).mono ?_; rintro e w4 ⟨rfl, hb4⟩; have hr4 := (hb4.block _ (lt_of_heap HRES.out)).trans HRES.out; obtain ⟨z0, z1, z2, z3, z4, z5, zf⟩ := six_cells hr4) | fail)
                      have hr7 := HR7.out
                      rw [GOOD.out, parse2_noLen l (by rw [HX1.out, HKD.out, HN.out]; exact HLN.out)] at hr7
                      subst hr7
                      exact refparse_end rfl rfl (six_set hr4) rfl (six_below ((HW1.out.trans (HBZ.out.mono HW1.out.size)).trans (hb4.mono (HW1.out.trans (HBZ.out.mono HW1.out.size)).size))) _ rfl rfl
              · have q7 : ¬ (2 : Int) < (nn : Int) := by have := HNN.out; have := HL.out; omega
                obtain ⟨a2, ha2⟩ : ∃ a2, (0 : Int) = a2 := ⟨_, rfl⟩
                have HV2 : Hid (valsOf l 2 = a2) := Lib.hid (by rw [vals_out l 2 (by have := HL.out; omega), ha2])
                have HN6 := Lib.hid h6
                clear hd0 hd1 h6
                have hg : wx.heap[h]? = some (.cells #[.string x0, .int .i64 kd, .bool true, .int .i64 a0, .int .i64 a1, .int .i64 a2] 25 (0, 0)) := by rw [← ha2]; exact HGX.out
                have hbz := HBX.out
                clear ha2
                go_upto_region 22 with fail
                · skip
                  clear y0 y1 y2 y3 y4 y5 yf
                  obtain ⟨y0, y1, y2, y3, y4, y5, yf⟩ := six_cells hg
                  have hbw3 := (HBW.out.trans (hbz.mono HBW.out.size))
                  have hres := (hbw3.block _ (lt_of_heap HB0.out)).trans HB0.out
                  have HG := Lib.hid hg
                  have HBZ := Lib.hid hbw3
                  have HRES := Lib.hid hres
                  obtain ⟨nm, hnm⟩ : ∃ nm, numOf kd = nm := ⟨_, rfl⟩
                  have HNM := Lib.hid (fun w => ToxZ.chicaneref09_Numbers.calls kd nm w (by rw [← hnm]; rfl))
                  have hnb : 0 ≤ nm ∧ nm ≤ 2 := by rw [← hnm]; unfold numOf; split <;> (try split) <;> omega
                  obtain ⟨hn0, hn2⟩ := hnb
                  have HN := Lib.hid hnm
                  clear hg hbz hbw3 hres hnm
                  have GOOD : Hid (parse1 l = parse2 l) := Lib.hid (parse1_good l HL.out (con_no HCON.out) (by rw [HX2.out]; exact hway) (fun j hj => HERR.out j (by omega)))
                  by_cases hk0 : kd = 0
                  · have qk : (kd == 0) = true := by simp [hk0]
                    have HK0 := Lib.hid hk0
                    clear hk0
                    obtain ⟨z0, z1, z2, z3, z4, z5, zf⟩ := six_cells HRES.out
                    go_wp2_with fail
                    have hr7 := HR7.out
                    rw [GOOD.out, parse2_noKind l (by rw [HX1.out, HKD.out]; exact HK0.out)] at hr7
                    subst hr7
                    exact refparse_end rfl rfl (six_set HRES.out) rfl (six_below (HW1.out.trans (HBZ.out.mono HW1.out.size))) _ rfl rfl
                  · have qk : (kd == 0) = false := by simp [hk0]
                    have HK0 := Lib.hid hk0
                    clear hk0
                    by_cases hln : (nn : Int) = 1 + nm
                    · have ql : ((nn : Int) != 1 + nm) = false := by simp [hln]
                      have hl := HL.out
                      have hln' : (l.length : Int) = 4 + nm := by have := HNN.out; omega
                      have hv0 : valsOf l 0 = a0 := by rw [vals_in l 0 (by omega), HA0.out]
                      have hv1 : valsOf l 1 = a1 := by rw [vals_in l 1 (by omega), HA1.out]
                      obtain ⟨ev, hev⟩ : ∃ ev, checkOf x0 kd true a0 a1 a2 = ev := ⟨_, rfl⟩
                      have hpc := parse2_check l x0 kd true a0 a1 a2 ev (by rw [HX1.out, HKD.out]) HX0.out (by rw [HX2.out]; simp [← toList_eq_iff, hu]) HK0.out (by rw [HN.out]; exact hln') hv0 hv1 HV2.out hev
                      have hs0 : x0.size ≤ 9223372036854775807 := by rw [← HX0.out]; exact Nat.le_trans (HSZ.out 0 (by omega)) (by decide)
                      have HCC := Lib.hid (fun w => ToxZ.chicaneref09_Check.calls x0 kd true a0 a1 a2 ev w (by rw [ToxZ.chicaneref09_Check.f, if_pos hs0, hev]))
                      have hr7 := HR7.out
                      rw [GOOD.out, hpc] at hr7
                      have HR8 := Lib.hid hr7
                      clear hpc hev hv0 hv1 hln hr7 hs0 hl hln'
                      by_cases he0 : ev = 0
                      · subst he0
                        have hr8 := HR8.out
                        rw [if_pos rfl] at hr8
                        subst hr8
                        go_wp2_with (first | (go_at_call 82; refine (HNM.out _).mono ?_; rintro e w4 ⟨rfl, hb4⟩; have hg4 := (hb4.block _ (lt_of_heap HG.out)).trans HG.out; obtain ⟨y0, y1, y2, y3, y4, y5, yf⟩ := six_cells hg4) | (go_at_call 62; refine (HCC.out _).mono ?_; rintro e w5 ⟨rfl, hb5⟩; have hg5 := (hb5.block _ (lt_of_heap hg4)).trans hg4; obtain ⟨yy0, yy1, yy2, yy3, yy4, yy5, yyf⟩ := six_cells hg5; have hr4 := (hb4.block _ (lt_of_heap HRES.out)).trans HRES.out; have hr5 := (hb5.block _ (lt_of_heap hr4)).trans hr4; obtain ⟨z0, z1, z2, z3, z4, z5, zf⟩ := six_cells hr5) | fail)
                        have hbb := HW1.out.trans (HBZ.out.mono HW1.out.size)
                        have hbc := hbb.trans (hb4.mono hbb.size)
                        exact refparse_end rfl rfl (six_set hr5) rfl (six_below (hbc.trans (hb5.mono hbc.size))) _ rfl rfl
                      · have qe : (ev != 0) = true := by simpa using he0
                        have hr8 := HR8.out
                        rw [if_neg he0] at hr8
                        subst hr8
                        clear he0
                        go_wp2_with (first | (go_at_call 82; refine (HNM.out _).mono ?_; rintro e w4 ⟨rfl, hb4⟩; have hg4 := (hb4.block _ (lt_of_heap HG.out)).trans HG.out; obtain ⟨y0, y1, y2, y3, y4, y5, yf⟩ := six_cells hg4) | (go_at_call 62; refine (HCC.out _).mono ?_; rintro e w5 ⟨rfl, hb5⟩; have hr4 := (hb4.block _ (lt_of_heap HRES.out)).trans HRES.out; have hr5 := (hb5.block _ (lt_of_heap hr4)).trans hr4; obtain ⟨z0, z1, z2, z3, z4, z5, zf⟩ := six_cells hr5) | fail)
                        have hbb := HW1.out.trans (HBZ.out.mono HW1.out.size)
                        have hbc := hbb.trans (hb4.mono hbb.size)
                        exact refparse_end rfl rfl (six_set hr5) rfl (six_below (hbc.trans (hb5.mono hbc.size))) _ rfl rfl
                    · have ql : ((nn : Int) != 1 + nm) = true := by simpa using hln
                      have HLN : Hid ((l.length : Int) ≠ 4 + nm) := Lib.hid (by have := HNN.out; have := HL.out; omega)
                      clear hln
                      go_wp2_with (first | (go_at_call 82; refine (HNM.out _).mono ?_; rintro e w4 ⟨rfl, hb4⟩; have hr4 := (hb4.block _ (lt_of_heap HRES.out)).trans HRES.out; obtain ⟨z0, z1, z2, z3, z4, z5, zf⟩ := six_cells hr4) | fail)
                      have hr7 := HR7.out
                      rw [GOOD.out, parse2_noLen l (by rw [HX1.out, HKD.out, HN.out]; exact HLN.out)] at hr7
                      subst hr7
                      exact refparse_end rfl rfl (six_set hr4) rfl (six_below ((HW1.out.trans (HBZ.out.mono HW1.out.size)).trans (hb4.mono (HW1.out.trans (HBZ.out.mono HW1.out.size)).size))) _ rfl rfl
end Go.Proofs.YtlglbpjccpdloaaGreatDoor.Tox
set_option linter.unusedVariables false
set_option linter.unusedSimpArgs false
namespace Go.Proofs.YtlglbpjccpdloaaGreatDoor.Tox
open Go.RowKit Go.Shelf Go.Proofs.YtlglbpjccpdloaaGreatDoor.Ext Go.Proofs.YtlglbpjccpdloaaGreatDoor.ToxRef Go.Proofs.YtlglbpjccpdloaaGreatDoorW.PrintWords Go.Proofs.YtlglbpjccpdloaaGreatDoorW.PrintLast
set_option maxHeartbeats 16000000 in
set_option maxRecDepth 100000 in
theorem refparse_down (s : ByteArray) (w : World) (hs : s.size ≤ 1000000000) (hl5 : ¬ (parts s).length < 5) (hl6 : ¬ 6 < (parts s).length) (hcon : ⟨#[]⟩ ∉ parts s) (hu : (((parts s).getD 2 ByteArray.empty).toList == [117, 112]) = false) (hd : ((parts s).getD 2 ByteArray.empty).toList = [100, 111, 119, 110]) :
    Calls Tryz.prog 54 #[.string s] w fun e w' => e = .returned (tup7 (parseOf s)) ∧ Below w.heap.size w w' := by
  have HS := Lib.hid (fun w => refsplit_parts s w hs)
  have hsz := parts_size s hs
  unfold parseOf
  obtain ⟨l, hpl⟩ : ∃ l, parts s = l := ⟨_, rfl⟩
  rw [hpl] at hsz HS hl5 hl6 hcon hu hd
  rw [hpl]
  obtain ⟨x2, hx2⟩ : ∃ x2, l.getD 2 ByteArray.empty = x2 := ⟨_, rfl⟩
  rw [hx2] at hu hd
  have HX2 := Lib.hid hx2
  have HCON := Lib.hid hcon
  have HSZ := Lib.hid hsz
  have HL := Lib.hid (And.intro hl5 hl6)
  obtain ⟨r7, hr7⟩ : ∃ r7, parse1 l = r7 := ⟨_, rfl⟩
  rw [hr7]
  have HR7 := Lib.hid hr7
  clear hpl hs hsz hx2 hl5 hl6 hr7 hcon
  have hway := way_down hd
  go_enter Tryz.func54, Tryz.ntmps54
  go_wp2_with (first | (go_at_call 40; refine (HS.out _).mono ?_; rintro e w1 ⟨g, cap, rfl, hcell, hg, hb⟩; have HCELL := Lib.hid hcell; have HB0 := Lib.hid ((hb.block _ (by simp)).trans (heap_new w _)); have HW1 := Lib.hid (below_alloc1 hb); have HG := Lib.hid hg; clear hcell hb hg) | fail)
  go_loopw [5] (fun jv wr => ∃ j : Nat, jv = .int .i64 j ∧ j ≤ l.length ∧ w1 = wr) (fun jv _ => l.length - (intOf jv).toNat)
  case atStart => exact ⟨0, rfl, Nat.zero_le _, rfl⟩
  case round =>
    obtain ⟨j, rfl, hj, rfl⟩ := hrel
    by_cases hjn : j < l.length
    · have q3 : (j : Int) < (l.length : Int) := by omega
      have hj6 : (j : Int) ≤ 6 := by have := HL.out; omega
      have hcj := HCELL.out j hjn
      have hne : ((l.getD j ByteArray.empty).toList == []) = false := part_ne HCON.out j hjn
      obtain ⟨xj, hxj⟩ : ∃ xj, l.getD j ByteArray.empty = xj := ⟨_, rfl⟩
      rw [hxj] at hcj hne
      clear hxj
      go_wp2_with fail
      go_roundw
      case measure => simp [intOf]; omega
      · exact ⟨j + 1, by simp, by omega, trivial⟩
    · obtain rfl : j = l.length := by omega
      have q3 : ¬ (l.length : Int) < (l.length : Int) := by omega
      go_upto_region 7 with fail
      go_cut [4, 5, 33] (fun s4 s5 s33 wx => s4 = .slice (some ⟨g, 0, none⟩) l.length cap ∧ s33 = .bool false ∧ w1 = wx)
      case first =>
        have h56 : l.length = 5 ∨ l.length = 6 := by have := HL.out; omega
        rcases h56 with h56 | h56
        · have q5 : ((l.length : Int) != 5) = false := by simp [h56]
          have H56 := Lib.hid h56
          clear h56
          go_wp2_with fail
          go_meet
          exact ⟨by rw [H56.out], rfl, rfl⟩
        · have q5 : ((l.length : Int) != 5) = true := by simp [h56]
          have q6 : ((l.length : Int) != 6) = false := by simp [h56]
          have H56 := Lib.hid h56
          clear h56
          go_wp2_with fail
          go_meet
          exact ⟨by rw [H56.out], rfl, rfl⟩
      case rest =>
        obtain ⟨rfl, rfl, rfl⟩ := hcut
        have hc2 := HCELL.out 2 (by have := HL.out; omega)
        rw [HX2.out] at hc2
        have i2 : (2 : Int) < (l.length : Int) := by have := HL.out; omega
        go_wp2_with fail
        go_loopw [6, 7] (fun nv jv wr => RR l w1 nv jv wr) (fun _ jv _ => l.length - (intOf jv).toNat)
        case atStart => exact ⟨3, _, rfl, rfl, Nat.le_refl _, by have := HL.out; omega, ⟨rfl, .inl ⟨rfl, rfl⟩⟩, (fun b hb => by cases hb), Below.refl _ w1, fun i hi => absurd hi (by omega)⟩
        case round =>
          obtain ⟨i, nv, rfl, rfl, hi3, hil, hown, hnb, hbw, herr⟩ := hrel
          have HOWN := Lib.hid hown
          have HNB := Lib.hid hnb
          have HBW := Lib.hid hbw
          have HERR := Lib.hid herr
          clear hown hnb hbw herr hc2
          by_cases hjn : i < l.length
          · have q6 : (i : Int) < (l.length : Int) := by omega
            have hcj := cell_later HBW.out (HCELL.out i hjn)
            obtain ⟨xj, hxj⟩ : ∃ xj, l.getD i ByteArray.empty = xj := ⟨_, rfl⟩
            rw [hxj] at hcj
            have hsj : xj.size ≤ 4611686018427387904 := by rw [← hxj]; exact HSZ.out i hjn
            obtain ⟨r1, r2, hp⟩ : ∃ r1 r2, tickParse xj = (r1, r2) := ⟨_, _, rfl⟩
            have HP := Lib.hid (ToxZ.chicaneref01_Parse.calls xj r1 r2 wr (by rw [ToxZ.chicaneref01_Parse.f, if_pos hsj, hp]))
            have HXJ := Lib.hid hxj
            have HPP := Lib.hid hp
            have HIX := Lib.hid (show 3 + (i - 3) = i by omega)
            clear hxj hp hsj
            by_cases hr2 : r2 = 0
            · subst hr2
              go_wp2_with (first | (go_at_call 32; refine HP.out.mono ?_; rintro e w2 ⟨rfl, hb2⟩; have HB2 := Lib.hid hb2; clear hb2) | (at_builtin; refine holdL ?_) | fail)
              refine HoldL.go ?_
              have hl6 := HL.out
              refine append_one rfl _ _ 96 3 (.int .i64 0) 1 8 rfl Tryz.underlying96 (by kernel_rfl) rfl (by omega) (by omega) nv (i - 3) (NV l i) #[.int .i64 r1] w2.heap.size rfl rfl rfl rfl (by simp [Value.oneCell']) (pw_own_below HOWN.out HB2.out) (by omega) ?_
              intro v1 w3 hown2 hg2 hat2
              have hb3 : Below w1.heap.size w1 w3 := (HBW.out.trans (HB2.out.mono HBW.out.size)).grown hg2 (Nat.le_trans HBW.out.size HB2.out.size) HNB.out
              have hnb3 : ∀ b, v1.ownBlock = some b → w1.heap.size ≤ b := by
                intro b hb
                rcases hat2 with e | e
                · rw [e] at hb; exact HNB.out b hb
                · rw [e] at hb; have := Nat.le_trans HBW.out.size HB2.out.size; simp at hb; omega
              have hnv : NV l (i + 1) = NV l i ++ [.int .i64 r1] := by
                have h1 := HXJ.out
                have h2 := HPP.out
                have : pn l (i - 3) = r1 := by unfold pn; rw [HIX.out, h1, h2]
                rw [NV_succ l i hi3, this]
              have hown3 : w3.ownsRow 0 3 1 v1 (i + 1 - 3) (NV l (i + 1)) := by
                rw [hnv, show i + 1 - 3 = (i - 3) + 1 by omega]; exact hown2
              have herr3 : ∀ j, j + 3 < i + 1 → pe l j = 0 := by
                intro j hj
                by_cases hij : j + 3 = i
                · have h1 := HXJ.out
                  have h2 := HPP.out
                  unfold pe
                  rw [show 3 + j = i by omega, h1, h2]
                · exact HERR.out j (by omega)
              have HO3 := Lib.hid hown3
              have HB3 := Lib.hid hb3
              have HN3 := Lib.hid hnb3
              have HE3 := Lib.hid herr3
              clear hown2 hg2 hat2 hb3 hnb3 hnv hown3 herr3
              go_wp2_with fail
              go_roundw
              case measure => simp [intOf]; omega
              · exact ⟨i + 1, _, rfl, by simp, by omega, by omega, HO3.out, HN3.out, HB3.out, HE3.out⟩
            · have q4 : (r2 != 0) = true := by simpa using hr2
              have hb02 := (HBW.out.block _ (lt_of_heap HB0.out)).trans HB0.out
              have HB2 := Lib.hid hr2
              clear hr2
              go_wp2_with (first | (go_at_call 32; refine HP.out.mono ?_; rintro e w2 ⟨rfl, hb2⟩; have hbw2 := HBW.out.trans (hb2.mono HBW.out.size); have hr0 := (hb2.block _ (lt_of_heap hb02)).trans hb02; obtain ⟨z0, z1, z2, z3, z4, z5, zf⟩ := six_cells hr0) | fail)
              have hr7 := HR7.out
              have hl := HL.out
              rw [parse1_bad l (i - 3) hl (by omega) (by have h1 := HXJ.out; have h2 := HPP.out; unfold pe; rw [HIX.out, h1, h2]; exact HB2.out)] at hr7
              subst hr7
              exact refparse_end rfl rfl (six_set hr0) rfl (six_below (HW1.out.trans (hbw2.mono HW1.out.size))) _ rfl rfl
          · obtain rfl : i = l.length := by omega
            have q6 : ¬ (l.length : Int) < (l.length : Int) := by omega
            have hl := HL.out
            obtain ⟨gn, capn, rfl⟩ := own_form HOWN.out (by omega)
            obtain ⟨x0, hx0⟩ : ∃ x0, l.getD 0 ByteArray.empty = x0 := ⟨_, rfl⟩
            obtain ⟨x1, hx1⟩ : ∃ x1, l.getD 1 ByteArray.empty = x1 := ⟨_, rfl⟩
            have hc0 := cell_later HBW.out (HCELL.out 0 (by omega))
            have hc1 := cell_later HBW.out (HCELL.out 1 (by omega))
            have hc2 := cell_later HBW.out (HCELL.out 2 (by omega))
            rw [hx0] at hc0
            rw [hx1] at hc1
            rw [HX2.out] at hc2
            obtain ⟨nn, hnn⟩ : ∃ nn, l.length - 3 = nn := ⟨_, rfl⟩
            have hnv : ∀ j, j < nn → (NV l l.length)[j]? = some (.int .i64 (pn l j)) := by
              intro j hj
              unfold NV
              rw [List.getElem?_map, List.getElem?_range (by omega)]
              rfl
            obtain ⟨a0, ha0⟩ : ∃ a0, pn l 0 = a0 := ⟨_, rfl⟩
            obtain ⟨a1, ha1⟩ : ∃ a1, pn l 1 = a1 := ⟨_, rfl⟩
            rw [hnn] at HOWN
            rw [hnn]
            have hd0 : wr.cell? ⟨gn, 0, none⟩ = some (.int .i64 a0) := by rw [(own_cells HOWN.out 0 (by omega)).1, hnv 0 (by omega), ha0]
            have hd1 : wr.cell? ⟨gn, 1, none⟩ = some (.int .i64 a1) := by rw [(own_cells HOWN.out 1 (by omega)).1, hnv 1 (by omega), ha1]
            have HX0 := Lib.hid hx0
            have HX1 := Lib.hid hx1
            have HA0 := Lib.hid ha0
            have HA1 := Lib.hid ha1
            have HNV := Lib.hid hnv
            have HNN := Lib.hid hnn
            obtain ⟨kd, hkd⟩ : ∃ kd, kindOf x1 = kd := ⟨_, rfl⟩
            have HKC := Lib.hid (fun w => ToxZ.chicaneref09_Kind.calls x1 kd w (by rw [← hkd]; rfl))
            have HKD := Lib.hid hkd
            have i0 : 0 < l.length := by omega
            have i1 : (1 : Int) < (l.length : Int) := by omega
            have i2 : (2 : Int) < (l.length : Int) := by omega
            have m0 : 0 < nn := by omega
            have m1 : (1 : Int) < (nn : Int) := by omega
            have hn3 : nn ≤ 3 := by omega
            clear hx0 hx1 ha0 ha1 hnv hkd hl hnn
            have n1 : wr.heap.size ≠ g := World.new_ne wr _ hc0
            have n2 : wr.heap.size ≠ gn := World.new_ne wr _ hd0
            go_upto_region 19 with fail
            go_cut [10] (fun s10 wx' => ∃ (h : Nat) (wx : World), wx = wx' ∧ s10 = .pointer (some ⟨h, 0, none⟩) ∧ wx.heap[h]? = some (.cells #[.string x0, .int .i64 kd, .bool false, .int .i64 a0, .int .i64 a1, .int .i64 0] 25 (0, 0)) ∧ Below wr.heap.size wr wx ∧ wr.heap.size ≤ h)
            case first =>
              go_region_held3 (fun W => W.cell? ⟨g, 0, none⟩ = some (.string x0) ∧ W.cell? ⟨g, 1, none⟩ = some (.string x1) ∧ W.cell? ⟨g, 2, none⟩ = some (.string x2) ∧
                  W.cell? ⟨gn, 0, none⟩ = some (.int .i64 a0) ∧ W.cell? ⟨gn, 1, none⟩ = some (.int .i64 a1))
                (go_keep)
                (first | (go_at_call 81; refine (HKC.out _).mono ?_; rintro e w3 ⟨rfl, hb3⟩; obtain ⟨g0, g1, g2, g3, g4⟩ := ‹_ ∧ _ ∧ _ ∧ _ ∧ _›; have k0 := cell_later hb3 g0; have k1 := cell_later hb3 g1; have k2 := cell_later hb3 g2; have k3 := cell_later hb3 g3; have k4 := cell_later hb3 g4; have n3 := World.new_ne w3 _ k0; have n4 := World.new_ne w3 _ k3; have hbq := below_undrew hb3; have HBR : Hid (Below wr.heap.size wr w3) := Lib.hid (by first | (with_reducible exact hbq) | (with_reducible exact ((Below.refl _ wr).alloc (Nat.le_refl _) _).trans (hbq.mono (by simp)))); clear hbq; have HAL := Lib.hid (heap_new w3); (try (have hzr := (hb3.block wr.heap.size (by simp)).trans (heap_new wr _); have zz := six_cells (W := w3) (B := wr.heap.size) hzr; obtain ⟨z0, z1, z2, z3, z4, z5, zf⟩ := zz; have HZR := Lib.hid hzr; clear hzr))))
              all_goals
                go_wp2_with fail
                go_meet
                refine ⟨_, _, rfl, rfl, ?_, ?_, ?_⟩
                · first
                  | with_reducible exact HAL.out _
                  | with_reducible exact six_set HZR.out
                · first
                  | with_reducible exact fin_a HBR.out
                  | with_reducible exact six_below_at HBR.out
                · first
                  | with_reducible exact Nat.le_refl _
                  | with_reducible exact HBR.out.size
            case rest =>
              obtain ⟨h, wx, rfl, rfl, hg, hbx, hgl⟩ := hcut
              obtain ⟨y0, y1, y2, y3, y4, y5, yf⟩ := six_cells hg
              have HGX := Lib.hid hg
              have HBX := Lib.hid hbx
              have HGL := Lib.hid hgl
              clear hg hbx hgl n1 n2 hc0 hc1 hc2
              by_cases h6 : l.length = 6
              · have q7 : (2 : Int) < (nn : Int) := by have := HNN.out; omega
                obtain ⟨a2, ha2⟩ : ∃ a2, pn l 2 = a2 := ⟨_, rfl⟩
                have hd2 : wr.cell? ⟨gn, 2, none⟩ = some (.int .i64 a2) := by rw [(own_cells HOWN.out 2 (by omega)).1, HNV.out 2 (by omega), ha2]
                have hd2x := cell_later HBX.out hd2
                have HV2 : Hid (valsOf l 2 = a2) := Lib.hid (by rw [vals_in l 2 (by omega), ha2])
                have HN6 := Lib.hid h6
                clear ha2 hd0 hd1 hd2 h6
                have pre := q7
                go_upto_region 22 with fail
                obtain ⟨wz, hwz⟩ : ∃ wz, wx.setCell ⟨h, 5, none⟩ (.int .i64 a2) = wz := ⟨_, rfl⟩
                rw [hwz]
                have hg : wz.heap[h]? = some (.cells #[.string x0, .int .i64 kd, .bool false, .int .i64 a0, .int .i64 a1, .int .i64 a2] 25 (0, 0)) := by rw [← hwz]; exact heap_set_eq (i := 5) _ (.int .i64 a2) HGX.out
                have hbz : Below wr.heap.size wr wz := by rw [← hwz]; exact HBX.out.setCell HGL.out _
                clear hwz
                · skip
                  clear y0 y1 y2 y3 y4 y5 yf
                  obtain ⟨y0, y1, y2, y3, y4, y5, yf⟩ := six_cells hg
                  have hbw3 := (HBW.out.trans (hbz.mono HBW.out.size))
                  have hres := (hbw3.block _ (lt_of_heap HB0.out)).trans HB0.out
                  have HG := Lib.hid hg
                  have HBZ := Lib.hid hbw3
                  have HRES := Lib.hid hres
                  obtain ⟨nm, hnm⟩ : ∃ nm, numOf kd = nm := ⟨_, rfl⟩
                  have HNM := Lib.hid (fun w => ToxZ.chicaneref09_Numbers.calls kd nm w (by rw [← hnm]; rfl))
                  have hnb : 0 ≤ nm ∧ nm ≤ 2 := by rw [← hnm]; unfold numOf; split <;> (try split) <;> omega
                  obtain ⟨hn0, hn2⟩ := hnb
                  have HN := Lib.hid hnm
                  clear hg hbz hbw3 hres hnm
                  have GOOD : Hid (parse1 l = parse2 l) := Lib.hid (parse1_good l HL.out (con_no HCON.out) (by rw [HX2.out]; exact hway) (fun j hj => HERR.out j (by omega)))
                  by_cases hk0 : kd = 0
                  · have qk : (kd == 0) = true := by simp [hk0]
                    have HK0 := Lib.hid hk0
                    clear hk0
                    obtain ⟨z0, z1, z2, z3, z4, z5, zf⟩ := six_cells HRES.out
                    go_wp2_with fail
                    have hr7 := HR7.out
                    rw [GOOD.out, parse2_noKind l (by rw [HX1.out, HKD.out]; exact HK0.out)] at hr7
                    subst hr7
                    exact refparse_end rfl rfl (six_set HRES.out) rfl (six_below (HW1.out.trans (HBZ.out.mono HW1.out.size))) _ rfl rfl
                  · have qk : (kd == 0) = false := by simp [hk0]
                    have HK0 := Lib.hid hk0
                    clear hk0
                    by_cases hln : (nn : Int) = 1 + nm
                    · have ql : ((nn : Int) != 1 + nm) = false := by simp [hln]
                      have hl := HL.out
                      have hln' : (l.length : Int) = 4 + nm := by have := HNN.out; omega
                      have hv0 : valsOf l 0 = a0 := by rw [vals_in l 0 (by omega), HA0.out]
                      have hv1 : valsOf l 1 = a1 := by rw [vals_in l 1 (by omega), HA1.out]
                      obtain ⟨ev, hev⟩ : ∃ ev, checkOf x0 kd false a0 a1 a2 = ev := ⟨_, rfl⟩
                      have hpc := parse2_check l x0 kd false a0 a1 a2 ev (by rw [HX1.out, HKD.out]) HX0.out (by rw [HX2.out]; simp only [decide_eq_false_iff_not]; intro hx; rw [hx] at hd; exact absurd hd (by rw [ByteArray.toList_eq]; decide)) HK0.out (by rw [HN.out]; exact hln') hv0 hv1 HV2.out hev
                      have hs0 : x0.size ≤ 9223372036854775807 := by rw [← HX0.out]; exact Nat.le_trans (HSZ.out 0 (by omega)) (by decide)
                      have HCC := Lib.hid (fun w => ToxZ.chicaneref09_Check.calls x0 kd false a0 a1 a2 ev w (by rw [ToxZ.chicaneref09_Check.f, if_pos hs0, hev]))
                      have hr7 := HR7.out
                      rw [GOOD.out, hpc] at hr7
                      have HR8 := Lib.hid hr7
                      clear hpc hev hv0 hv1 hln hr7 hs0 hl hln'
                      by_cases he0 : ev = 0
                      · subst he0
                        have hr8 := HR8.out
                        rw [if_pos rfl] at hr8
                        subst hr8
                        go_wp2_with (first | (go_at_call 82; refine (HNM.out _).mono ?_; rintro e w4 ⟨rfl, hb4⟩; have hg4 := (hb4.block _ (lt_of_heap HG.out)).trans HG.out; obtain ⟨y0, y1, y2, y3, y4, y5, yf⟩ := six_cells hg4) | (go_at_call 62; refine (HCC.out _).mono ?_; rintro e w5 ⟨rfl, hb5⟩; have hg5 := (hb5.block _ (lt_of_heap hg4)).trans hg4; obtain ⟨yy0, yy1, yy2, yy3, yy4, yy5, yyf⟩ := six_cells hg5; have hr4 := (hb4.block _ (lt_of_heap HRES.out)).trans HRES.out; have hr5 := (hb5.block _ (lt_of_heap hr4)).trans hr4; obtain ⟨z0, z1, z2, z3, z4, z5, zf⟩ := six_cells hr5) | fail)
                        have hbb := HW1.out.trans (HBZ.out.mono HW1.out.size)
                        have hbc := hbb.trans (hb4.mono hbb.size)
                        exact refparse_end rfl rfl (six_set hr5) rfl (six_below (hbc.trans (hb5.mono hbc.size))) _ rfl rfl
                      · have qe : (ev != 0) = true := by simpa using he0
                        have hr8 := HR8.out
                        rw [if_neg he0] at hr8
                        subst hr8
                        clear he0
                        go_wp2_with (first | (go_at_call 82; refine (HNM.out _).mono ?_; rintro e w4 ⟨rfl, hb4⟩; have hg4 := (hb4.block _ (lt_of_heap HG.out)).trans HG.out; obtain ⟨y0, y1, y2, y3, y4, y5, yf⟩ := six_cells hg4) | (go_at_call 62; refine (HCC.out _).mono ?_; rintro e w5 ⟨rfl, hb5⟩; have hr4 := (hb4.block _ (lt_of_heap HRES.out)).trans HRES.out; have hr5 := (hb5.block _ (lt_of_heap hr4)).trans hr4; obtain ⟨z0, z1, z2, z3, z4, z5, zf⟩ := six_cells hr5) | fail)
                        have hbb := HW1.out.trans (HBZ.out.mono HW1.out.size)
                        have hbc := hbb.trans (hb4.mono hbb.size)
                        exact refparse_end rfl rfl (six_set hr5) rfl (six_below (hbc.trans (hb5.mono hbc.size))) _ rfl rfl
                    · have ql : ((nn : Int) != 1 + nm) = true := by simpa using hln
                      have HLN : Hid ((l.length : Int) ≠ 4 + nm) := Lib.hid (by have := HNN.out; have := HL.out; omega)
                      clear hln
                      go_wp2_with (first | (go_at_call 82; refine (HNM.out _).mono ?_; rintro e w4 ⟨rfl, hb4⟩; have hr4 := (hb4.block _ (lt_of_heap HRES.out)).trans HRES.out; obtain ⟨z0, z1, z2, z3, z4, z5, zf⟩ := six_cells hr4) | fail)
                      have hr7 := HR7.out
                      rw [GOOD.out, parse2_noLen l (by rw [HX1.out, HKD.out, HN.out]; exact HLN.out)] at hr7
                      subst hr7
                      exact refparse_end rfl rfl (six_set hr4) rfl (six_below ((HW1.out.trans (HBZ.out.mono HW1.out.size)).trans (hb4.mono (HW1.out.trans (HBZ.out.mono HW1.out.size)).size))) _ rfl rfl
              · have q7 : ¬ (2 : Int) < (nn : Int) := by have := HNN.out; have := HL.out; omega
                obtain ⟨a2, ha2⟩ : ∃ a2, (0 : Int) = a2 := ⟨_, rfl⟩
                have HV2 : Hid (valsOf l 2 = a2) := Lib.hid (by rw [vals_out l 2 (by have := HL.out; omega), ha2])
                have HN6 := Lib.hid h6
                clear hd0 hd1 h6
                have hg : wx.heap[h]? = some (.cells #[.string x0, .int .i64 kd, .bool false, .int .i64 a0, .int .i64 a1, .int .i64 a2] 25 (0, 0)) := by rw [← ha2]; exact HGX.out
                have hbz := HBX.out
                clear ha2
                go_upto_region 22 with fail
                · skip
                  clear y0 y1 y2 y3 y4 y5 yf
                  obtain ⟨y0, y1, y2, y3, y4, y5, yf⟩ := six_cells hg
                  have hbw3 := (HBW.out.trans (hbz.mono HBW.out.size))
                  have hres := (hbw3.block _ (lt_of_heap HB0.out)).trans HB0.out
                  have HG := Lib.hid hg
                  have HBZ := Lib.hid hbw3
                  have HRES := Lib.hid hres
                  obtain ⟨nm, hnm⟩ : ∃ nm, numOf kd = nm := ⟨_, rfl⟩
                  have HNM := Lib.hid (fun w => ToxZ.chicaneref09_Numbers.calls kd nm w (by rw [← hnm]; rfl))
                  have hnb : 0 ≤ nm ∧ nm ≤ 2 := by rw [← hnm]; unfold numOf; split <;> (try split) <;> omega
                  obtain ⟨hn0, hn2⟩ := hnb
                  have HN := Lib.hid hnm
                  clear hg hbz hbw3 hres hnm
                  have GOOD : Hid (parse1 l = parse2 l) := Lib.hid (parse1_good l HL.out (con_no HCON.out) (by rw [HX2.out]; exact hway) (fun j hj => HERR.out j (by omega)))
                  by_cases hk0 : kd = 0
                  · have qk : (kd == 0) = true := by simp [hk0]
                    have HK0 := Lib.hid hk0
                    clear hk0
                    obtain ⟨z0, z1, z2, z3, z4, z5, zf⟩ := six_cells HRES.out
                    go_wp2_with fail
                    have hr7 := HR7.out
                    rw [GOOD.out, parse2_noKind l (by rw [HX1.out, HKD.out]; exact HK0.out)] at hr7
                    subst hr7
                    exact refparse_end rfl rfl (six_set HRES.out) rfl (six_below (HW1.out.trans (HBZ.out.mono HW1.out.size))) _ rfl rfl
                  · have qk : (kd == 0) = false := by simp [hk0]
                    have HK0 := Lib.hid hk0
                    clear hk0
                    by_cases hln : (nn : Int) = 1 + nm
                    · have ql : ((nn : Int) != 1 + nm) = false := by simp [hln]
                      have hl := HL.out
                      have hln' : (l.length : Int) = 4 + nm := by have := HNN.out; omega
                      have hv0 : valsOf l 0 = a0 := by rw [vals_in l 0 (by omega), HA0.out]
                      have hv1 : valsOf l 1 = a1 := by rw [vals_in l 1 (by omega), HA1.out]
                      obtain ⟨ev, hev⟩ : ∃ ev, checkOf x0 kd false a0 a1 a2 = ev := ⟨_, rfl⟩
                      have hpc := parse2_check l x0 kd false a0 a1 a2 ev (by rw [HX1.out, HKD.out]) HX0.out (by rw [HX2.out]; simp only [decide_eq_false_iff_not]; intro hx; rw [hx] at hd; exact absurd hd (by rw [ByteArray.toList_eq]; decide)) HK0.out (by rw [HN.out]; exact hln') hv0 hv1 HV2.out hev
                      have hs0 : x0.size ≤ 9223372036854775807 := by rw [← HX0.out]; exact Nat.le_trans (HSZ.out 0 (by omega)) (by decide)
                      have HCC := Lib.hid (fun w => ToxZ.chicaneref09_Check.calls x0 kd false a0 a1 a2 ev w (by rw [ToxZ.chicaneref09_Check.f, if_pos hs0, hev]))
                      have hr7 := HR7.out
                      rw [GOOD.out, hpc] at hr7
                      have HR8 := Lib.hid hr7
                      clear hpc hev hv0 hv1 hln hr7 hs0 hl hln'
                      by_cases he0 : ev = 0
                      · subst he0
                        have hr8 := HR8.out
                        rw [if_pos rfl] at hr8
                        subst hr8
                        go_wp2_with (first | (go_at_call 82; refine (HNM.out _).mono ?_; rintro e w4 ⟨rfl, hb4⟩; have hg4 := (hb4.block _ (lt_of_heap HG.out)).trans HG.out; obtain ⟨y0, y1, y2, y3, y4, y5, yf⟩ := six_cells hg4) | (go_at_call 62; refine (HCC.out _).mono ?_; rintro e w5 ⟨rfl, hb5⟩; have hg5 := (hb5.block _ (lt_of_heap hg4)).trans hg4; obtain ⟨yy0, yy1, yy2, yy3, yy4, yy5, yyf⟩ := six_cells hg5; have hr4 := (hb4.block _ (lt_of_heap HRES.out)).trans HRES.out; have hr5 := (hb5.block _ (lt_of_heap hr4)).trans hr4; obtain ⟨z0, z1, z2, z3, z4, z5, zf⟩ := six_cells hr5) | fail)
                        have hbb := HW1.out.trans (HBZ.out.mono HW1.out.size)
                        have hbc := hbb.trans (hb4.mono hbb.size)
                        exact refparse_end rfl rfl (six_set hr5) rfl (six_below (hbc.trans (hb5.mono hbc.size))) _ rfl rfl
                      · have qe : (ev != 0) = true := by simpa using he0
                        have hr8 := HR8.out
                        rw [if_neg he0] at hr8
                        subst hr8
                        clear he0
                        go_wp2_with (first | (go_at_call 82; refine (HNM.out _).mono ?_; rintro e w4 ⟨rfl, hb4⟩; have hg4 := (hb4.block _ (lt_of_heap HG.out)).trans HG.out; obtain ⟨y0, y1, y2, y3, y4, y5, yf⟩ := six_cells hg4) | (go_at_call 62; refine (HCC.out _).mono ?_; rintro e w5 ⟨rfl, hb5⟩; have hr4 := (hb4.block _ (lt_of_heap HRES.out)).trans HRES.out; have hr5 := (hb5.block _ (lt_of_heap hr4)).trans hr4; obtain ⟨z0, z1, z2, z3, z4, z5, zf⟩ := six_cells hr5) | fail)
                        have hbb := HW1.out.trans (HBZ.out.mono HW1.out.size)
                        have hbc := hbb.trans (hb4.mono hbb.size)
                        exact refparse_end rfl rfl (six_set hr5) rfl (six_below (hbc.trans (hb5.mono hbc.size))) _ rfl rfl
                    · have ql : ((nn : Int) != 1 + nm) = true := by simpa using hln
                      have HLN : Hid ((l.length : Int) ≠ 4 + nm) := Lib.hid (by have := HNN.out; have := HL.out; omega)
                      clear hln
                      go_wp2_with (first | (go_at_call 82; refine (HNM.out _).mono ?_; rintro e w4 ⟨rfl, hb4⟩; have hr4 := (hb4.block _ (lt_of_heap HRES.out)).trans HRES.out; obtain ⟨z0, z1, z2, z3, z4, z5, zf⟩ := six_cells hr4) | fail)
                      have hr7 := HR7.out
                      rw [GOOD.out, parse2_noLen l (by rw [HX1.out, HKD.out, HN.out]; exact HLN.out)] at hr7
                      subst hr7
                      exact refparse_end rfl rfl (six_set hr4) rfl (six_below ((HW1.out.trans (HBZ.out.mono HW1.out.size)).trans (hb4.mono (HW1.out.trans (HBZ.out.mono HW1.out.size)).size))) _ rfl rfl
end Go.Proofs.YtlglbpjccpdloaaGreatDoor.Tox
set_option linter.unusedVariables false
set_option linter.unusedSimpArgs false
namespace Go.Proofs.YtlglbpjccpdloaaGreatDoor.Tox
open Go.RowKit Go.Shelf Go.Proofs.YtlglbpjccpdloaaGreatDoor.Ext Go.Proofs.YtlglbpjccpdloaaGreatDoor.ToxRef Go.Proofs.YtlglbpjccpdloaaGreatDoorW.PrintWords Go.Proofs.YtlglbpjccpdloaaGreatDoorW.PrintLast
theorem parse1_90 (l : List ByteArray) (h : (⟨#[]⟩ : ByteArray) ∈ l ∨ (l.length < 5 ∨ 6 < l.length) ∨ wayBad (l.getD 2 ByteArray.empty) = true) : parse1 l = bad7 90 := by
  unfold parse1
  split
  · rfl
  · split
    · rfl
    · rename_i h1 h2
      rw [if_pos]
      rcases h with h | h | h
      · exact absurd ((ToxPlain.contains_iff _ _).2 h) h2
      · exact absurd h h1
      · exact h
theorem parts_len (s : ByteArray) (hs : s.size ≤ 1000000000) : (parts s).length ≤ 1000000001 := by
  have h1 : 1 ≤ Ext.blank.size := by decide
  have hle := Lib.countB_le Ext.blank h1 s.size s (Nat.le_refl _)
  have hlen : (parts s).length = Lib.countB s Ext.blank + 1 := Lib.splitB_all Ext.blank h1 0 _ s rfl
  omega
set_option maxHeartbeats 4000000 in
set_option maxRecDepth 100000 in
theorem refparse_bad (s : ByteArray) (w : World) (hs : s.size ≤ 1000000000) (h90 : (⟨#[]⟩ : ByteArray) ∈ parts s ∨ ((parts s).length < 5 ∨ 6 < (parts s).length) ∨ wayBad ((parts s).getD 2 ByteArray.empty) = true) :
    Calls Tryz.prog 54 #[.string s] w fun e w' => e = .returned (tup7 (parseOf s)) ∧ Below w.heap.size w w' := by
  have HS := Lib.hid (fun w => refsplit_parts s w hs)
  have hlen := parts_len s hs
  unfold parseOf
  rw [parse1_90 _ h90]
  obtain ⟨l, hpl⟩ : ∃ l, parts s = l := ⟨_, rfl⟩
  rw [hpl] at HS h90 hlen
  have H90 := Lib.hid h90
  have HLEN := Lib.hid hlen
  clear hpl hs hlen h90
  go_enter Tryz.func54, Tryz.ntmps54
  go_wp2_with (first | (go_at_call 40; refine (HS.out _).mono ?_; rintro e w1 ⟨g, cap, rfl, hcell, hg, hb⟩; have HCELL := Lib.hid hcell; have HB0 := Lib.hid ((hb.block _ (by simp)).trans (heap_new w _)); have HW1 := Lib.hid (below_alloc1 hb); have HG := Lib.hid hg; clear hcell hb hg) | fail)
  go_loopw [5] (fun jv wr => ∃ j : Nat, jv = .int .i64 j ∧ j ≤ l.length ∧ (∀ i, i < j → l.getD i ByteArray.empty ≠ ⟨#[]⟩) ∧ w1 = wr) (fun jv _ => l.length - (intOf jv).toNat)
  case atStart => exact ⟨0, rfl, Nat.zero_le _, fun i hi => absurd hi (Nat.not_lt_zero _), rfl⟩
  case round =>
    obtain ⟨j, rfl, hj, hne, rfl⟩ := hrel
    have HNE := Lib.hid hne
    clear hne
    by_cases hjn : j < l.length
    · have q3 : (j : Int) < (l.length : Int) := by omega
      have hj6 : (j : Int) ≤ 1000000001 := by have := HLEN.out; omega
      have hcj := HCELL.out j hjn
      obtain ⟨xj, hxj⟩ : ∃ xj, l.getD j ByteArray.empty = xj := ⟨_, rfl⟩
      rw [hxj] at hcj
      have HXJ := Lib.hid hxj
      clear hxj
      by_cases he : xj = ⟨#[]⟩
      · have q4 : (xj.toList == []) = true := by rw [he, beq_iff_eq, ByteArray.toList_eq]
        obtain ⟨z0, z1, z2, z3, z4, z5, zf⟩ := six_cells HB0.out
        clear he
        go_wp2_with fail
        exact refparse_end rfl rfl (six_set HB0.out) rfl (six_below HW1.out) _ rfl rfl
      · have q4 : (xj.toList == []) = false := by
          rw [Bool.eq_false_iff]
          intro h2
          rw [beq_iff_eq] at h2
          exact he ((toList_eq_iff _ _).1 (by rw [h2, ByteArray.toList_eq]))
        have HE := Lib.hid he
        clear he
        go_wp2_with fail
        go_roundw
        case measure => simp [intOf]; omega
        · refine ⟨j + 1, by simp, by omega, fun i hi => ?_, trivial⟩
          by_cases hij : i = j
          · subst hij; rw [HXJ.out]; exact HE.out
          · exact HNE.out i (by omega)
    · obtain rfl : j = l.length := by omega
      have q3 : ¬ (l.length : Int) < (l.length : Int) := by omega
      have hno : (⟨#[]⟩ : ByteArray) ∉ l := by
        intro hm
        obtain ⟨i, hi, he⟩ := List.getElem_of_mem hm
        exact HNE.out i hi (by simp [hi, he])
      obtain ⟨z0, z1, z2, z3, z4, z5, zf⟩ := six_cells HB0.out
      by_cases h56 : l.length = 5 ∨ l.length = 6
      · have hw : wayBad (l.getD 2 ByteArray.empty) = true := by
          rcases H90.out with h | h | h
          · exact absurd h hno
          · omega
          · exact h
        have hc2 := HCELL.out 2 (by omega)
        have i2 : (2 : Int) < (l.length : Int) := by omega
        obtain ⟨x2, hx2⟩ : ∃ x2, l.getD 2 ByteArray.empty = x2 := ⟨_, rfl⟩
        rw [hx2] at hc2 hw
        have hu : (x2.toList == [117, 112]) = false := by
          rw [Bool.eq_false_iff]; intro h; rw [beq_iff_eq] at h; exact way_up h hw
        have hd : (x2.toList == [100, 111, 119, 110]) = false := by
          rw [Bool.eq_false_iff]; intro h; rw [beq_iff_eq] at h; exact way_down h hw
        clear hx2 hw hno
        go_upto_region 7 with fail
        go_cut [4, 5, 33] (fun s4 s5 s33 wx => s4 = .slice (some ⟨g, 0, none⟩) l.length cap ∧ s33 = .bool false ∧ w1 = wx)
        case first =>
          rcases h56 with h56 | h56
          · have q5 : ((l.length : Int) != 5) = false := by simp [h56]
            have H56 := Lib.hid h56
            clear h56
            go_wp2_with fail
            go_meet
            exact ⟨by rw [H56.out], rfl, rfl⟩
          · have q5 : ((l.length : Int) != 5) = true := by simp [h56]
            have q6 : ((l.length : Int) != 6) = false := by simp [h56]
            have H56 := Lib.hid h56
            clear h56
            go_wp2_with fail
            go_meet
            exact ⟨by rw [H56.out], rfl, rfl⟩
        case rest =>
          obtain ⟨rfl, rfl, rfl⟩ := hcut
          clear h56
          go_wp2_with fail
          exact refparse_end rfl rfl (six_set HB0.out) rfl (six_below HW1.out) _ rfl rfl
      · have q5 : ((l.length : Int) != 5) = true := by simp; omega
        have q6 : ((l.length : Int) != 6) = true := by simp; omega
        clear h56 hno
        go_wp2_with fail
        exact refparse_end rfl rfl (six_set HB0.out) rfl (six_below HW1.out) _ rfl rfl
theorem refparse_all (s : ByteArray) (w : World) (hs : s.size ≤ 1000000000) :
    Calls Tryz.prog 54 #[.string s] w fun e w' => e = .returned (tup7 (parseOf s)) ∧ Below w.heap.size w w' := by
  by_cases hc : (⟨#[]⟩ : ByteArray) ∈ parts s
  · exact refparse_bad s w hs (.inl hc)
  · by_cases hl : (parts s).length < 5 ∨ 6 < (parts s).length
    · exact refparse_bad s w hs (.inr (.inl hl))
    · have h5 : ¬ (parts s).length < 5 := by omega
      have h6 : ¬ 6 < (parts s).length := by omega
      cases hu : (((parts s).getD 2 ByteArray.empty).toList == [117, 112])
      · cases hd : (((parts s).getD 2 ByteArray.empty).toList == [100, 111, 119, 110])
        · refine refparse_bad s w hs (.inr (.inr ?_))
          simp only [wayBad, Bool.and_eq_true, decide_eq_true_eq]
          generalize (parts s).getD 2 ByteArray.empty = x2 at hu hd
          refine ⟨?_, ?_⟩
          · rintro rfl; simp [ByteArray.toList_eq] at hu
          · rintro rfl; simp [ByteArray.toList_eq] at hd
        · exact refparse_down s w hs h5 h6 hc hu (beq_iff_eq.1 hd)
      · exact refparse_up s w hs h5 h6 hc (beq_iff_eq.1 hu)
end Go.Proofs.YtlglbpjccpdloaaGreatDoor.Tox
namespace Go.Proofs.YtlglbpjccpdloaaGreatDoor.ToxZ
open Go.RowKit Go.Proofs.YtlglbpjccpdloaaGreatDoor.Tox
def chicaneref09_Parse.f (a0 : ByteArray) : Option (ByteArray × Int × Bool × Int × Int × Int × Int) := if a0.size ≤ 1000000000 then some (parseOf a0) else none
theorem chicaneref09_Parse.calls (a0 : ByteArray) (r1 : ByteArray) (r2 : Int) (r3 : Bool) (r4 : Int) (r5 : Int) (r6 : Int) (r7 : Int) (w : World) (h : chicaneref09_Parse.f a0 = some (r1, r2, r3, r4, r5, r6, r7)) :
    Calls Tryz.prog 54 #[.string a0] w fun e w' => e = .returned (.tuple #[.agg #[.string r1, .int .i64 r2, .bool r3, .int .i64 r4, .int .i64 r5, .int .i64 r6], .int .i64 r7]) ∧ Below w.heap.size w w' := by
  unfold chicaneref09_Parse.f at h
  split at h
  · rename_i hs
    have := refparse_all a0 w hs
    rw [Option.some.inj h] at this
    exact this
  · cases h
end Go.Proofs.YtlglbpjccpdloaaGreatDoor.ToxZ
namespace Go.Proofs.YtlglbpjccpdloaaGreatDoor.POrdB
open Go.Proofs.YtlglbpjccpdloaaGreatDoor.Ext Go.Proofs.YtlglbpjccpdloaaGreatDoor.ToxZ Go.Proofs.YtlglbpjccpdloaaGreatDoor.PWrdA Go.RowKit Go.Proofs.YtlglbpjccpdloaaGreatDoorW.PrintWords Go.Proofs.YtlglbpjccpdloaaGreatDoorW.PrintLast Go.Proofs.YtlglbpjccpdloaaGreatDoorW.PrintMore
attribute [local go_sem] max2_int min2_int max_two min_two max_three min_three max_four min_four   -- for this text's walks alone
set_option linter.unusedVariables false
set_option linter.unusedSimpArgs false
def errW : Option Int → Value
 | none => .nilIface
 | some c => .iface 0 (.int .i64 c)
theorem errW_none : errW none = .nilIface := rfl
theorem errW_some (c : Int) : errW (some c) = .iface 0 (.int .i64 c) := rfl
theorem info9 : (Tryz.prog.info? 9).map (fun i => (i.zero, i.size, i.bytes)) = some (some (.string ⟨#[]⟩), 1, 16) := by kernel_rfl
end Go.Proofs.YtlglbpjccpdloaaGreatDoor.POrdB
