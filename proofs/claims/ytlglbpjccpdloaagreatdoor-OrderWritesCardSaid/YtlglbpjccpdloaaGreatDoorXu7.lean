/- Gathered by a program of this session (shake.py): what the claim's theorem needs. -/
import Derived.Test.YtlglbpjccpdloaaGreatDoorXu0
import Derived.Test.YtlglbpjccpdloaaGreatDoorXu1
import Derived.Test.YtlglbpjccpdloaaGreatDoorXu2
import Derived.Test.YtlglbpjccpdloaaGreatDoorXu3
import Derived.Test.YtlglbpjccpdloaaGreatDoorXu5
import Derived.Test.YtlglbpjccpdloaaGreatDoorXu6
import Derived.Below
import Derived.Deep.Draws
import Derived.Deep.AppendLies
import Derived.Maps.AppendAt
import Derived.OwnWalk
import Derived.Laws.BytesArg
import Derived.Laws.MakeOwn
import Derived.Laws.OwnMore
import Derived.Deep.OwnRows
import Derived.Tactics
import Derived.Lib.ConvBytes
import Derived.Laws.Slices
import Derived.WalkKit
import Derived.KernelRfl
import Derived.RowKit3
import Derived.Deep.LoopGhost
import Derived.Deep.QuietTactic
import Derived.BigQuiet
import Derived.WideLaws
import Derived.Deep.DeepCutAuto
import Derived.Deep.CutBlock
import Derived.Deep.RegionHeld3
import Derived.Laws.Rows
import Derived.Lib.AppendStr
import Derived.ArgAppend
import Derived.Laws.IdiomCopy
import Derived.OrdersHeld
import Derived.Laws.BitsLemmas
import Derived.RowKit
import Derived.Test.YtlglbpjccpdloaaGreatDoorProg
import Derived.Laws.CopyOwn
import Derived.Deep.RegionLaw
set_option linter.unusedVariables false
set_option linter.unusedSimpArgs false
namespace Go.Proofs.YtlglbpjccpdloaaGreatDoor.Ext
end Go.Proofs.YtlglbpjccpdloaaGreatDoor.Ext
namespace Go.Proofs.YtlglbpjccpdloaaGreatDoor.PWrdA
end Go.Proofs.YtlglbpjccpdloaaGreatDoor.PWrdA
namespace Go.Proofs.YtlglbpjccpdloaaGreatDoor.ScopeL
end Go.Proofs.YtlglbpjccpdloaaGreatDoor.ScopeL
namespace Go.Proofs.YtlglbpjccpdloaaGreatDoor.Tox
end Go.Proofs.YtlglbpjccpdloaaGreatDoor.Tox
namespace Go.Proofs.YtlglbpjccpdloaaGreatDoor.ToxZ
end Go.Proofs.YtlglbpjccpdloaaGreatDoor.ToxZ
namespace Go.Proofs.YtlglbpjccpdloaaGreatDoorW.PrintLast
end Go.Proofs.YtlglbpjccpdloaaGreatDoorW.PrintLast
namespace Go.Proofs.YtlglbpjccpdloaaGreatDoorW.PrintMore
end Go.Proofs.YtlglbpjccpdloaaGreatDoorW.PrintMore
namespace Go.Proofs.YtlglbpjccpdloaaGreatDoorW.PrintWords
end Go.Proofs.YtlglbpjccpdloaaGreatDoorW.PrintWords
set_option linter.unusedVariables false
set_option linter.unusedSimpArgs false
namespace Go.Proofs.YtlglbpjccpdloaaGreatDoor.Ext
open Go.RowKit Go.Proofs.YtlglbpjccpdloaaGreatDoorW.PrintWords Go.Proofs.YtlglbpjccpdloaaGreatDoorW.PrintLast Go.Proofs.YtlglbpjccpdloaaGreatDoor.ScopeL Go.Proofs.YtlglbpjccpdloaaGreatDoor.PWrdA
theorem more_is (p1 p2 : Addr) (k : Nat) (s : ByteArray) (b : Bool) (hb : decide (k < s.size) = b) (w : World) (h1 : w.cell? p1 = some (.int .i64 k)) (h2 : w.cell? p2 = some (.string s)) :
    Calls Tryz.prog 69 #[.pointer (some p1), .pointer (some p2)] w fun e w' => e = .returned (.bool b) ∧ w = w' := by
  have hd : decide ((k : Int) < (s.size : Int)) = b := by rw [← hb]; simp
  go_enter Tryz.func69, Tryz.ntmps69
  go_wp2
  go_ret
  exact ⟨by first | (rw [hd]; done) | (simp [hb]; done) | simp_all, rfl⟩
theorem may_is (c : UInt8) (b : Bool) (hb : WP.may c = b) (w : World) :
    Calls Tryz.prog 64 #[.int .u8 (c.toNat : Int)] w fun e w' => e = .returned (.bool b) ∧ w = w' := by
  have h256 : c.toNat < 256 := c.toNat_lt
  have hb' : ((decide ((32 : Int) ≤ (c.toNat : Int)) && decide ((c.toNat : Int) ≤ 126)) || ((c.toNat : Int) == 9)) = b := by
    rw [← hb]
    unfold WP.may
    have e1 : decide ((32 : Int) ≤ (c.toNat : Int)) = decide (32 ≤ c.toNat) := by simp; omega
    have e2 : decide ((c.toNat : Int) ≤ 126) = decide (c.toNat ≤ 126) := by simp; omega
    have e3 : ((c.toNat : Int) == 9) = decide (c.toNat = 9) := by rw [Bool.eq_iff_iff]; simp; omega
    rw [e1, e2, e3]
  generalize c.toNat = n at hb' h256
  clear hb
  by_cases h1 : (32 : Int) ≤ (n : Int)
  · by_cases h2 : (n : Int) ≤ 126
    all_goals
      go_enter Tryz.func64, Tryz.ntmps64
      go_wp2
      go_ret
      exact ⟨by rw [← hb']; first | (simp [h1, h2]; done) | (simp [h1, h2]; omega), rfl⟩
  · go_enter Tryz.func64, Tryz.ntmps64
    go_wp2
    go_ret
    exact ⟨by rw [← hb']; first | (simp [h1]; done) | (simp [h1]; omega), rfl⟩
theorem blank_is (c : UInt8) (b : Bool) (hb : WP.blk c = b) (w : World) :
    Calls Tryz.prog 70 #[.int .u8 (c.toNat : Int)] w fun e w' => e = .returned (.bool b) ∧ w = w' := by
  have hb' : (((c.toNat : Int) == 32) || ((c.toNat : Int) == 9)) = b := by
    rw [← hb]
    unfold WP.blk
    have e1 : ((c.toNat : Int) == 32) = decide (c.toNat = 32) := by rw [Bool.eq_iff_iff]; simp; omega
    have e3 : ((c.toNat : Int) == 9) = decide (c.toNat = 9) := by rw [Bool.eq_iff_iff]; simp; omega
    rw [e1, e3]
  generalize c.toNat = n at hb'
  clear hb
  cases h1 : ((n : Int) == 32)
  all_goals
    go_enter Tryz.func70, Tryz.ntmps70
    go_wp2
    go_ret
    exact ⟨by rw [← hb', h1]; rfl, rfl⟩
def Fr (p1 lv wv p7 p8 : Value) (u : Nat → Value) : Act := { tmps := List.toArray (u 0 :: p1 :: u 2 :: u 3 :: u 4 :: lv :: wv :: p7 :: p8 :: u 9 :: u 10 :: u 11 :: u 12 :: u 13 :: u 14 :: u 15 :: u 16 :: u 17 :: u 18 :: u 19 :: u 20 :: u 21 :: u 22 :: u 23 :: u 24 :: u 25 :: u 26 :: u 27 :: u 28 :: u 29 :: u 30 :: u 31 :: u 32 :: u 33 :: u 34 :: u 35 :: u 36 :: u 37 :: u 38 :: u 39 :: u 40 :: u 41 :: u 42 :: u 43 :: u 44 :: u 45 :: u 46 :: u 47 :: u 48 :: u 49 :: u 50 :: u 51 :: u 52 :: u 53 :: u 54 :: u 55 :: u 56 :: u 57 :: u 58 :: u 59 :: u 60 :: u 61 :: u 62 :: u 63 :: u 64 :: u 65 :: u 66 :: u 67 :: u 68 :: u 69 :: u 70 :: u 71 :: u 72 :: u 73 :: u 74 :: u 75 :: u 76 :: u 77 :: u 78 :: u 79 :: u 80 :: u 81 :: u 82 :: u 83 :: u 84 :: u 85 :: u 86 :: u 87 :: u 88 :: u 89 :: u 90 :: u 91 :: u 92 :: u 93 :: u 94 :: u 95 :: u 96 :: u 97 :: u 98 :: u 99 :: u 100 :: u 101 :: u 102 :: u 103 :: u 104 :: u 105 :: u 106 :: u 107 :: u 108 :: u 109 :: u 110 :: u 111 :: u 112 :: u 113 :: u 114 :: u 115 :: u 116 :: u 117 :: u 118 :: u 119 :: u 120 :: u 121 :: u 122 :: u 123 :: u 124 :: u 125 :: u 126 :: u 127 :: u 128 :: u 129 :: u 130 :: u 131 :: u 132 :: u 133 :: u 134 :: u 135 :: u 136 :: u 137 :: u 138 :: u 139 :: u 140 :: u 141 :: u 142 :: u 143 :: u 144 :: u 145 :: u 146 :: u 147 :: u 148 :: u 149 :: u 150 :: u 151 :: u 152 :: u 153 :: u 154 :: u 155 :: u 156 :: u 157 :: u 158 :: u 159 :: u 160 :: u 161 :: u 162 :: []), defers := [] }
theorem list_all (l : List Value) : l = (List.range l.length).map (fun i => l.getD i undef) := by
  apply List.ext_getElem
  · simp
  · intro i h1 h2
    simp [h1]
set_option maxRecDepth 100000 in
theorem fr_lits (u : Nat → Value) : (List.range 163).map u = u 0 :: u 1 :: u 2 :: u 3 :: u 4 :: u 5 :: u 6 :: u 7 :: u 8 :: u 9 :: u 10 :: u 11 :: u 12 :: u 13 :: u 14 :: u 15 :: u 16 :: u 17 :: u 18 :: u 19 :: u 20 :: u 21 :: u 22 :: u 23 :: u 24 :: u 25 :: u 26 :: u 27 :: u 28 :: u 29 :: u 30 :: u 31 :: u 32 :: u 33 :: u 34 :: u 35 :: u 36 :: u 37 :: u 38 :: u 39 :: u 40 :: u 41 :: u 42 :: u 43 :: u 44 :: u 45 :: u 46 :: u 47 :: u 48 :: u 49 :: u 50 :: u 51 :: u 52 :: u 53 :: u 54 :: u 55 :: u 56 :: u 57 :: u 58 :: u 59 :: u 60 :: u 61 :: u 62 :: u 63 :: u 64 :: u 65 :: u 66 :: u 67 :: u 68 :: u 69 :: u 70 :: u 71 :: u 72 :: u 73 :: u 74 :: u 75 :: u 76 :: u 77 :: u 78 :: u 79 :: u 80 :: u 81 :: u 82 :: u 83 :: u 84 :: u 85 :: u 86 :: u 87 :: u 88 :: u 89 :: u 90 :: u 91 :: u 92 :: u 93 :: u 94 :: u 95 :: u 96 :: u 97 :: u 98 :: u 99 :: u 100 :: u 101 :: u 102 :: u 103 :: u 104 :: u 105 :: u 106 :: u 107 :: u 108 :: u 109 :: u 110 :: u 111 :: u 112 :: u 113 :: u 114 :: u 115 :: u 116 :: u 117 :: u 118 :: u 119 :: u 120 :: u 121 :: u 122 :: u 123 :: u 124 :: u 125 :: u 126 :: u 127 :: u 128 :: u 129 :: u 130 :: u 131 :: u 132 :: u 133 :: u 134 :: u 135 :: u 136 :: u 137 :: u 138 :: u 139 :: u 140 :: u 141 :: u 142 :: u 143 :: u 144 :: u 145 :: u 146 :: u 147 :: u 148 :: u 149 :: u 150 :: u 151 :: u 152 :: u 153 :: u 154 :: u 155 :: u 156 :: u 157 :: u 158 :: u 159 :: u 160 :: u 161 :: u 162 :: [] := by rfl
set_option maxRecDepth 100000 in
theorem fr_open (a : Act) (p1 lv wv p7 p8 : Value) (hd : a.defers = []) (hs : a.tmps.size = 163) (h1 : a.tmps.getD 1 undef = p1) (h5 : a.tmps.getD 5 undef = lv) (h6 : a.tmps.getD 6 undef = wv) (h7 : a.tmps.getD 7 undef = p7) (h8 : a.tmps.getD 8 undef = p8) :
    ∃ u, a = Fr p1 lv wv p7 p8 u := by
  obtain ⟨⟨l⟩, d⟩ := a
  obtain ⟨u, hu⟩ : ∃ u : Nat → Value, u = fun i => l.getD i undef := ⟨_, rfl⟩
  have hg : ∀ i, (⟨l⟩ : Array Value).getD i undef = u i := by
    intro i
    rw [hu]
    simp [Array.getD_eq_getD_getElem?, List.getD_eq_getElem?_getD]
  have hl := list_all l
  have hs' : l.length = 163 := hs
  rw [hs', ← hu, fr_lits] at hl
  simp only at hd h1 h5 h6 h7 h8
  rw [hg] at h1 h5 h6 h7 h8
  subst h1 h5 h6 h7 h8 hd
  exact ⟨u, by rw [Fr, hl]⟩
def ba (l : List UInt8) : ByteArray := ⟨l.toArray⟩
def strs (ws : List (List UInt8)) : List Value := ws.map (fun b => .string (ba b))
def by8 (wb : List UInt8) : List Int := wb.map (fun c => (c.toNat : Int))
theorem reps_strsW (w : World) (base : Nat) (ok : Nat → Prop) (xs : List ByteArray) : Reps (Kd.string.M w base ok) 1 xs (xs.map Value.string) := by
  refine ⟨by simp, fun j p hj => ?_⟩
  show _ = [Value.string p]
  have hl : j < xs.length := by
    rcases Nat.lt_or_ge j xs.length with h | h
    · exact h
    · rw [List.getElem?_eq_none h] at hj; cases hj
  have : (xs.map Value.string)[j]? = some (.string p) := by rw [List.getElem?_map, hj]; rfl
  rw [Nat.mul_one]
  have hd : (xs.map Value.string).drop j = Value.string p :: (xs.map Value.string).drop (j + 1) := by
    rw [List.drop_eq_getElem_cons (by simpa using hl)]
    congr 1
    rw [List.getElem?_eq_getElem (by simpa using hl)] at this
    exact Option.some.inj this
  rw [hd]
  rfl
theorem reps_strs (W : World) (base : Nat) (ok : Nat → Prop) (ws : List (List UInt8)) : Reps (Kd.string.M W base ok) Kd.string.sz (ws.map ba) (strs ws) := by
  have := reps_strsW W base ok (ws.map ba)
  rw [List.map_map] at this
  exact this
theorem strs_len (ws : List (List UInt8)) : (strs ws).length = ws.length := by simp [strs]
structure SW (s : ByteArray) (w W : World) (k : Nat) (lv : Value) (ws : List (List UInt8)) : Prop where
  hl : W.heap[w.heap.size]? = some (.cells #[.string s] 9 (0, 0))
  ha : W.heap[w.heap.size + 1]? = some (.cells #[.int .i64 k] 3 (0, 0))
  hk : k ≤ s.size
  own : W.ownsRow (w.heap.size + 2) 9 1 lv ws.length (strs ws)
  bel : Below w.heap.size w W
  len : ws.length ≤ 16
def OW (w W : World) (wv : Value) (wb : List UInt8) : Prop := W.ownsRow (w.heap.size + 2) 5 1 wv wb.length (nums .u8 (by8 wb))
structure Frm (w : World) (lv wv : Value) (a : Act) : Prop where
  hd : a.defers = []
  hs : a.tmps.size = 163
  h1 : a.tmps.getD 1 undef = .pointer (some ⟨w.heap.size, 0, none⟩)
  h5 : a.tmps.getD 5 undef = lv
  h6 : a.tmps.getD 6 undef = wv
  h7 : a.tmps.getD 7 undef = .pointer (some ⟨w.heap.size + 1, 0, none⟩)
  h8 : a.tmps.getD 8 undef = .func (.func 69) #[] #[.pointer (some ⟨w.heap.size + 1, 0, none⟩), .pointer (some ⟨w.heap.size, 0, none⟩)]
structure St (m : WP.Mode) (s : ByteArray) (w : World) (R : WP.Res) (k : Nat) (a : Act) (W : World) : Prop where
  ex : ∃ lv wv ws wb, Frm w lv wv a ∧ SW s w W k lv ws ∧ (m = .pla ∨ m = .quo → OW w W wv wb ∧ wb.length ≤ k ∧ ws.length < 16) ∧ WP.run m ws wb k (s.data.toList.drop k) = R
def Post (w : World) (R : WP.Res) (e : Ending) (w' : World) : Prop :=
  ∃ lv, e = .returned (.tuple #[lv, .int .i64 (R.2.1 : Nat), .int .i64 (R.2.2 : Nat)]) ∧ w'.ownsRow w.heap.size 9 1 lv R.1.length (strs R.1) ∧ Below w.heap.size w w'
def scopeOf : Option Code → Code
  | some (.seq _ (.scope c)) => c
  | some (.scope c) => c
  | _ => .skip
noncomputable def sbody : Code := scopeOf Tryz.f44.body
theorem drop_at (s : ByteArray) (k : Nat) (h : k < s.size) : s.data.toList.drop k = s[k] :: s.data.toList.drop (k + 1) := by
  rw [List.drop_eq_getElem_cons (by simpa using h)]; rfl
theorem drop_end (s : ByteArray) (k : Nat) (h : s.size ≤ k) : s.data.toList.drop k = [] := by
  rw [List.drop_eq_nil_of_le (by simpa using h)]
theorem sw_cells {s : ByteArray} {w W : World} {k : Nat} {lv : Value} {ws : List (List UInt8)} (h : SW s w W k lv ws) :
    W.cell? ⟨w.heap.size, 0, none⟩ = some (.string s) ∧ W.cell? ⟨w.heap.size + 1, 0, none⟩ = some (.int .i64 k) ∧ W.frozen? ⟨w.heap.size + 1, 0, none⟩ = false :=
  ⟨(blk_cell h.hl 0).trans rfl, (blk_cell h.ha 0).trans rfl, blk_frozen h.ha 0⟩
theorem sw_step {s : ByteArray} {w W : World} {k : Nat} {lv : Value} {ws : List (List UInt8)} (h : SW s w W k lv ws) (k' : Nat) (hk : k' ≤ s.size) :
    SW s w (W.setCell ⟨w.heap.size + 1, 0, none⟩ (.int .i64 k')) k' lv ws :=
  ⟨blk_far h.hl (by simp) _, by have := blk_set h.ha 0 (.int .i64 k'); simpa using this, hk, own_setCell h.own (fun he => by have := own_base h.own _ he.symm; simp at this) _, h.bel.setCell (by simp) _, h.len⟩
theorem ow_step {w W : World} {wv : Value} {wb : List UInt8} (h : OW w W wv wb) (v : Value) : OW w (W.setCell ⟨w.heap.size + 1, 0, none⟩ v) wv wb :=
  own_setCell h (fun he => by have := own_base h _ he.symm; simp at this) _
theorem post_err {s : ByteArray} {w W : World} {k : Nat} {lv : Value} {ws : List (List UInt8)} (h : SW s w W k lv ws) (i e n : Nat) : Post w ([], i, e) (.returned (.tuple #[.slice none 0 0, .int .i64 (i : Nat), .int .i64 (e : Nat)])) (W.drewN n) :=
  ⟨_, rfl, own_nil _ _ _ _, pw_below_drewN h.bel n⟩
theorem post_ok {s : ByteArray} {w W : World} {k : Nat} {lv : Value} {ws : List (List UInt8)} (h : SW s w W k lv ws) (i n : Nat) : Post w (ws, i, 0) (.returned (.tuple #[lv, .int .i64 (i : Nat), .int .i64 (0 : Nat)])) (W.drewN n) :=
  ⟨_, rfl, pw_own_drewN (own_less h.own (by omega)) n, pw_below_drewN h.bel n⟩
theorem sw_step1 {s : ByteArray} {w W : World} {k : Nat} {lv : Value} {ws : List (List UInt8)} (h : SW s w W k lv ws) (hk : k + 1 ≤ s.size) :
    SW s w (W.setCell ⟨w.heap.size + 1, 0, none⟩ (.int .i64 ((k : Int) + 1))) (k + 1) lv ws := sw_step h (k + 1) hk
theorem str_ba (wb : List UInt8) : strOfNums (by8 wb) = ba wb := by
  unfold strOfNums by8 ba
  congr 1
  simp [List.map_map]
  congr 1
  apply List.ext_getElem
  · simp
  · intro i h1 h2
    simp
theorem by8_len (wb : List UInt8) : (by8 wb).length = wb.length := by simp [by8]
theorem by8_snoc (wb : List UInt8) (c : UInt8) : by8 wb ++ [(c.toNat : Int)] = by8 (wb ++ [c]) := by simp [by8]
theorem sw_byte {s : ByteArray} {w W w1 : World} {k : Nat} {lv wv : Value} {ws : List (List UInt8)} {wb : List UInt8} (h : SW s w W k lv ws) (ho : OW w W wv wb) (hb : Below (w.heap.size + 2) W w1) (hg : W.grownBy w1 wv.ownBlock) : SW s w w1 k lv ws :=
  ⟨(hb.block _ (by omega)).trans h.hl, (hb.block _ (by omega)).trans h.ha, h.hk, own_other h.own hg (own_type_ne h.own ho (by decide)), h.bel.trans (hb.mono (by omega)), h.len⟩
theorem ow_byte {w w1 : World} {v1 : Value} {wb : List UInt8} {c : UInt8} (h : w1.ownsRow (w.heap.size + 2) 5 1 v1 (by8 wb ++ [(c.toNat : Int)]).length (nums .u8 (by8 wb ++ [(c.toNat : Int)]))) : OW w w1 v1 (wb ++ [c]) := by
  rw [by8_snoc, by8_len] at h
  exact h
theorem sw_word {s : ByteArray} {w W w1 : World} {k : Nat} {lv v1 : Value} {ws : List (List UInt8)} {wb : List UInt8} (h : SW s w W k lv ws) (hl : ws.length < 16) (hb : Below (w.heap.size + 2) W w1)
    (ho : w1.ownsRow (w.heap.size + 2) 9 1 v1 (strs ws ++ [Value.string (strOfNums (by8 wb))]).length (strs ws ++ [Value.string (strOfNums (by8 wb))])) : SW s w w1 k v1 (ws ++ [wb]) :=
  ⟨(hb.block _ (by omega)).trans h.hl, (hb.block _ (by omega)).trans h.ha, h.hk, by
    rw [str_ba] at ho
    have e : strs ws ++ [Value.string (ba wb)] = strs (ws ++ [wb]) := by simp [strs]
    rw [e, strs_len] at ho
    exact ho, h.bel.trans (hb.mono (by omega)), by simp; omega⟩
theorem ow_nil (w W : World) : OW w W (.slice none 0 0) [] := own_nil _ _ _ _
theorem info8 : (Tryz.prog.info? 5).map (fun i => (i.zero, i.size, i.bytes)) = some (some (.int .u8 0), 1, 1) := by kernel_rfl
theorem infoS : (Tryz.prog.info? 9).map (fun i => (i.zero, i.size, i.bytes)) = some (some (.string ByteArray.empty), 1, 16) := by kernel_rfl
def off : WP.Mode → Nat
  | .btw => 1
  | .pla => 2
  | _ => 0
def mu (s : ByteArray) (m : WP.Mode) (k : Nat) : Nat := 3 * (s.size - k) + off m
structure Js (J : Nat → Act → World → Prop) (s : ByteArray) (w : World) (R : WP.Res) (n : Nat) : Prop where
  j0 : ∀ k' a' W', mu s .btw k' < n → St .btw s w R k' a' W' → J 0 a' W'
  j1 : ∀ k' a' W', mu s .rest k' < n → St .rest s w R k' a' W' → J 1 a' W'
  j2 : ∀ k' a' W', mu s .quo k' < n → St .quo s w R k' a' W' → J 2 a' W'
  j3 : ∀ k' a' W', mu s .pla k' < n → St .pla s w R k' a' W' → J 3 a' W'
abbrev Pass (l : Nat) (m : WP.Mode) (s : ByteArray) (w : World) (R : WP.Res) (k : Nat) (J : Nat → Act → World → Prop) (a : Act) (W : World) : Prop :=
  ∃ rest, findLabel sbody l = some (.seq .skip rest) ∧ rest.wp Tryz.prog (jumps J (bodyPost Tryz.prog Tryz.f44 (Post w R))) a W
abbrev CM (w : World) (s : ByteArray) (k : Int) (b : Bool) : Prop := Hid (∀ W : World, W.cell? ⟨w.heap.size + 1, 0, none⟩ = some (.int .i64 k) → W.cell? ⟨w.heap.size, 0, none⟩ = some (.string s) → Calls Tryz.prog 69 #[.pointer (some ⟨w.heap.size + 1, 0, none⟩), .pointer (some ⟨w.heap.size, 0, none⟩)] W fun e w' => e = .returned (.bool b) ∧ W = w')
theorem cm (w : World) (s : ByteArray) (k : Nat) (b : Bool) (h : decide (k < s.size) = b) : CM w s k b := Lib.hid fun W h1 h2 => more_is _ _ k s b h W h1 h2
theorem cm1 (w : World) (s : ByteArray) (k : Nat) (b : Bool) (h : decide (k + 1 < s.size) = b) : CM w s ((k : Int) + 1) b := Lib.hid fun W h1 h2 => more_is _ _ (k + 1) s b h W h1 h2
abbrev CY (c : UInt8) (b : Bool) : Prop := Hid (∀ W : World, Calls Tryz.prog 64 #[.int .u8 (c.toNat : Int)] W fun e w' => e = .returned (.bool b) ∧ W = w')
theorem cy (c : UInt8) (b : Bool) (h : WP.may c = b) : CY c b := Lib.hid (may_is c b h)
abbrev CB (c : UInt8) (b : Bool) : Prop := Hid (∀ W : World, Calls Tryz.prog 70 #[.int .u8 (c.toNat : Int)] W fun e w' => e = .returned (.bool b) ∧ W = w')
theorem cb (c : UInt8) (b : Bool) (h : WP.blk c = b) : CB c b := Lib.hid (blank_is c b h)
theorem eq_yes (c : UInt8) (n : Nat) (h : c.toNat = n) : ((c.toNat : Int) == (n : Int)) = true ∧ ((c.toNat : Int) != (n : Int)) = false := by simp [h]
theorem eq_no (c : UInt8) (n : Nat) (h : c.toNat ≠ n) : ((c.toNat : Int) == (n : Int)) = false ∧ ((c.toNat : Int) != (n : Int)) = true := by
  constructor
  · simp; omega
  · simp; omega
set_option maxRecDepth 100000 in
set_option maxHeartbeats 4000000 in
theorem p1_end (s : ByteArray) (w : World) (hs : s.size ≤ 256) (R : WP.Res) (k : Nat) (J : Nat → Act → World → Prop) (hJ : Js J s w R (mu s .rest k)) (a : Act) (W : World) (lv wv : Value) (ws : List (List UInt8)) (wb : List UInt8) (hF : Frm w lv wv a) (hS : SW s w W k lv ws) (hR : WP.run .rest ws wb k (s.data.toList.drop k) = R) (hk : s.size ≤ k) :
    Pass 1 .rest s w R k J a W := by
  rw [drop_end s k hk] at hR
  change (ws, k, 0) = R at hR
  refine ⟨_, rfl, ?_⟩
  obtain ⟨u, rfl⟩ := fr_open a _ _ _ _ _ hF.hd hF.hs hF.h1 hF.h5 hF.h6 hF.h7 hF.h8
  clear hF
  obtain ⟨cl1, cl2, cl3⟩ := sw_cells hS
  unfold Fr
  have HS := Lib.hid hS
  have HR := Lib.hid hR
  have HJ := Lib.hid hJ
  clear hS hR hJ
  have HM := cm w s k false (by simp; omega)
  go_wp2_with (first | (go_at_call 69; refine (HM.out _ (by assumption) (by assumption)).mono ?_; rintro e w1 ⟨rfl, rfl⟩) | fail)
  go_quiet (fail)
  go_wp2_with fail
  go_ret3
  rw [← HR.out]
  exact post_ok HS.out k _
set_option maxRecDepth 100000 in
set_option maxHeartbeats 4000000 in
theorem p1_bad (s : ByteArray) (w : World) (hs : s.size ≤ 256) (R : WP.Res) (k : Nat) (J : Nat → Act → World → Prop) (hJ : Js J s w R (mu s .rest k)) (a : Act) (W : World) (lv wv : Value) (ws : List (List UInt8)) (wb : List UInt8) (hF : Frm w lv wv a) (hS : SW s w W k lv ws) (hR : WP.run .rest ws wb k (s.data.toList.drop k) = R) (hk : k < s.size) (c : UInt8) (hc : s[k] = c) (hm : WP.may c = false) :
    Pass 1 .rest s w R k J a W := by
  rw [drop_at s k hk, hc] at hR
  rw [WP.run, if_pos hm] at hR
  refine ⟨_, rfl, ?_⟩
  obtain ⟨u, rfl⟩ := fr_open a _ _ _ _ _ hF.hd hF.hs hF.h1 hF.h5 hF.h6 hF.h7 hF.h8
  clear hF
  obtain ⟨cl1, cl2, cl3⟩ := sw_cells hS
  unfold Fr
  have HS := Lib.hid hS
  have HR := Lib.hid hR
  have HJ := Lib.hid hJ
  clear hS hR hJ
  have HM := cm w s k true (by simp [hk])
  have HY := cy c false hm
  clear hm
  go_wp2_with (first | (go_at_call 69; refine (HM.out _ (by assumption) (by assumption)).mono ?_; rintro e w1 ⟨rfl, rfl⟩) | (go_at_call 64; refine (HY.out _).mono ?_; rintro e w1 ⟨rfl, rfl⟩) | fail)
  go_quiet (fail)
  go_wp2_with fail
  go_ret3
  rw [← HR.out]
  exact post_err HS.out (k) _ _
set_option maxRecDepth 100000 in
set_option maxHeartbeats 4000000 in
theorem p1_go (s : ByteArray) (w : World) (hs : s.size ≤ 256) (R : WP.Res) (k : Nat) (J : Nat → Act → World → Prop) (hJ : Js J s w R (mu s .rest k)) (a : Act) (W : World) (lv wv : Value) (ws : List (List UInt8)) (wb : List UInt8) (hF : Frm w lv wv a) (hS : SW s w W k lv ws) (hR : WP.run .rest ws wb k (s.data.toList.drop k) = R) (hk : k < s.size) (c : UInt8) (hc : s[k] = c) (hm : WP.may c = true) :
    Pass 1 .rest s w R k J a W := by
  rw [drop_at s k hk, hc] at hR
  rw [WP.run, if_neg (by simp [hm])] at hR
  refine ⟨_, rfl, ?_⟩
  obtain ⟨u, rfl⟩ := fr_open a _ _ _ _ _ hF.hd hF.hs hF.h1 hF.h5 hF.h6 hF.h7 hF.h8
  clear hF
  obtain ⟨cl1, cl2, cl3⟩ := sw_cells hS
  unfold Fr
  have HS := Lib.hid hS
  have HR := Lib.hid hR
  have HJ := Lib.hid hJ
  clear hS hR hJ
  have HM := cm w s k true (by simp [hk])
  have HY := cy c true hm
  clear hm
  have hkk : k + 1 ≤ 256 := by omega
  go_wp2_with (first | (go_at_call 69; refine (HM.out _ (by assumption) (by assumption)).mono ?_; rintro e w1 ⟨rfl, rfl⟩) | (go_at_call 64; refine (HY.out _).mono ?_; rintro e w1 ⟨rfl, rfl⟩) | fail)
  go_step3
  exact HJ.out.j1 (k + 1) _ _ (by simp only [mu, off]; omega) ⟨_, _, _, _, ⟨rfl, rfl, rfl, rfl, rfl, rfl, rfl⟩, sw_step1 HS.out (by omega), by simp, HR.out⟩
set_option maxRecDepth 100000 in
set_option maxHeartbeats 4000000 in
theorem p0_end (s : ByteArray) (w : World) (hs : s.size ≤ 256) (R : WP.Res) (k : Nat) (J : Nat → Act → World → Prop) (hJ : Js J s w R (mu s .btw k)) (a : Act) (W : World) (lv wv : Value) (ws : List (List UInt8)) (wb : List UInt8) (hF : Frm w lv wv a) (hS : SW s w W k lv ws) (hR : WP.run .btw ws wb k (s.data.toList.drop k) = R) (hk : s.size ≤ k) :
    Pass 0 .btw s w R k J a W := by
  rw [drop_end s k hk] at hR
  change (ws, k, 0) = R at hR
  refine ⟨_, rfl, ?_⟩
  obtain ⟨u, rfl⟩ := fr_open a _ _ _ _ _ hF.hd hF.hs hF.h1 hF.h5 hF.h6 hF.h7 hF.h8
  clear hF
  obtain ⟨cl1, cl2, cl3⟩ := sw_cells hS
  unfold Fr
  have HS := Lib.hid hS
  have HR := Lib.hid hR
  have HJ := Lib.hid hJ
  clear hS hR hJ
  have HM := cm w s k false (by simp; omega)
  go_wp2_with (first | (go_at_call 69; refine (HM.out _ (by assumption) (by assumption)).mono ?_; rintro e w1 ⟨rfl, rfl⟩) | fail)
  go_quiet (fail)
  go_wp2_with fail
  go_ret3
  rw [← HR.out]
  exact post_ok HS.out k _
set_option maxRecDepth 100000 in
set_option maxHeartbeats 4000000 in
theorem p0_blk (s : ByteArray) (w : World) (hs : s.size ≤ 256) (R : WP.Res) (k : Nat) (J : Nat → Act → World → Prop) (hJ : Js J s w R (mu s .btw k)) (a : Act) (W : World) (lv wv : Value) (ws : List (List UInt8)) (wb : List UInt8) (hF : Frm w lv wv a) (hS : SW s w W k lv ws) (hR : WP.run .btw ws wb k (s.data.toList.drop k) = R) (hk : k < s.size) (c : UInt8) (hc : s[k] = c) (hb : WP.blk c = true) :
    Pass 0 .btw s w R k J a W := by
  rw [drop_at s k hk, hc] at hR
  rw [WP.run, if_pos hb] at hR
  refine ⟨_, rfl, ?_⟩
  obtain ⟨u, rfl⟩ := fr_open a _ _ _ _ _ hF.hd hF.hs hF.h1 hF.h5 hF.h6 hF.h7 hF.h8
  clear hF
  obtain ⟨cl1, cl2, cl3⟩ := sw_cells hS
  unfold Fr
  have HS := Lib.hid hS
  have HR := Lib.hid hR
  have HJ := Lib.hid hJ
  clear hS hR hJ
  have HM := cm w s k true (by simp [hk])
  have HB := cb c true hb
  clear hb
  have hkk : k + 1 ≤ 256 := by omega
  go_wp2_with (first | (go_at_call 69; refine (HM.out _ (by assumption) (by assumption)).mono ?_; rintro e w1 ⟨rfl, rfl⟩) | (go_at_call 70; refine (HB.out _).mono ?_; rintro e w1 ⟨rfl, rfl⟩) | fail)
  go_step3
  exact HJ.out.j0 (k + 1) _ _ (by simp only [mu, off]; omega) ⟨_, _, _, _, ⟨rfl, rfl, rfl, rfl, rfl, rfl, rfl⟩, sw_step1 HS.out (by omega), by simp, HR.out⟩
set_option maxRecDepth 100000 in
set_option maxHeartbeats 4000000 in
theorem p0_sharp (s : ByteArray) (w : World) (hs : s.size ≤ 256) (R : WP.Res) (k : Nat) (J : Nat → Act → World → Prop) (hJ : Js J s w R (mu s .btw k)) (a : Act) (W : World) (lv wv : Value) (ws : List (List UInt8)) (wb : List UInt8) (hF : Frm w lv wv a) (hS : SW s w W k lv ws) (hR : WP.run .btw ws wb k (s.data.toList.drop k) = R) (hk : k < s.size) (c : UInt8) (hc : s[k] = c) (hb : WP.blk c = false) (hm : WP.may c = true) (hn35 : c.toNat = 35) :
    Pass 0 .btw s w R k J a W := by
  rw [drop_at s k hk, hc] at hR
  rw [WP.run, if_neg (by simp [hb]), if_pos hn35] at hR
  have hR2 : WP.run .rest ws [] k (s.data.toList.drop k) = R := by rw [drop_at s k hk, hc, WP.run, if_neg (by simp [hm])]; exact hR
  have HR2 := Lib.hid hR2
  clear hR2 hm
  refine ⟨_, rfl, ?_⟩
  obtain ⟨u, rfl⟩ := fr_open a _ _ _ _ _ hF.hd hF.hs hF.h1 hF.h5 hF.h6 hF.h7 hF.h8
  clear hF
  obtain ⟨cl1, cl2, cl3⟩ := sw_cells hS
  unfold Fr
  have HS := Lib.hid hS
  have HR := Lib.hid hR
  have HJ := Lib.hid hJ
  clear hS hR hJ
  have HM := cm w s k true (by simp [hk])
  have HB := cb c false hb
  clear hb
  obtain ⟨q35a, q35b⟩ : ((c.toNat : Int) == 35) = true ∧ ((c.toNat : Int) != 35) = false := eq_yes c 35 hn35
  clear hn35
  go_wp2_with (first | (go_at_call 69; refine (HM.out _ (by assumption) (by assumption)).mono ?_; rintro e w1 ⟨rfl, rfl⟩) | (go_at_call 70; refine (HB.out _).mono ?_; rintro e w1 ⟨rfl, rfl⟩) | fail)
  go_step3
  exact HJ.out.j1 (k) _ _ (by simp only [mu, off]; omega) ⟨_, _, _, _, ⟨rfl, rfl, rfl, rfl, rfl, rfl, rfl⟩, HS.out, by simp, HR2.out⟩
set_option maxRecDepth 100000 in
set_option maxHeartbeats 4000000 in
theorem p0_bad (s : ByteArray) (w : World) (hs : s.size ≤ 256) (R : WP.Res) (k : Nat) (J : Nat → Act → World → Prop) (hJ : Js J s w R (mu s .btw k)) (a : Act) (W : World) (lv wv : Value) (ws : List (List UInt8)) (wb : List UInt8) (hF : Frm w lv wv a) (hS : SW s w W k lv ws) (hR : WP.run .btw ws wb k (s.data.toList.drop k) = R) (hk : k < s.size) (c : UInt8) (hc : s[k] = c) (hb : WP.blk c = false) (hm : WP.may c = false) (hn35 : c.toNat ≠ 35) :
    Pass 0 .btw s w R k J a W := by
  rw [drop_at s k hk, hc] at hR
  rw [WP.run, if_neg (by simp [hb]), if_neg hn35, if_pos hm] at hR
  refine ⟨_, rfl, ?_⟩
  obtain ⟨u, rfl⟩ := fr_open a _ _ _ _ _ hF.hd hF.hs hF.h1 hF.h5 hF.h6 hF.h7 hF.h8
  clear hF
  obtain ⟨cl1, cl2, cl3⟩ := sw_cells hS
  unfold Fr
  have HS := Lib.hid hS
  have HR := Lib.hid hR
  have HJ := Lib.hid hJ
  clear hS hR hJ
  have HM := cm w s k true (by simp [hk])
  have HB := cb c false hb
  clear hb
  have HY := cy c false hm
  clear hm
  obtain ⟨q35a, q35b⟩ : ((c.toNat : Int) == 35) = false ∧ ((c.toNat : Int) != 35) = true := eq_no c 35 hn35
  clear hn35
  go_wp2_with (first | (go_at_call 69; refine (HM.out _ (by assumption) (by assumption)).mono ?_; rintro e w1 ⟨rfl, rfl⟩) | (go_at_call 70; refine (HB.out _).mono ?_; rintro e w1 ⟨rfl, rfl⟩) | (go_at_call 64; refine (HY.out _).mono ?_; rintro e w1 ⟨rfl, rfl⟩) | fail)
  go_quiet (fail)
  go_wp2_with fail
  go_ret3
  rw [← HR.out]
  exact post_err HS.out (k) _ _
set_option maxRecDepth 100000 in
set_option maxHeartbeats 4000000 in
theorem p0_many (s : ByteArray) (w : World) (hs : s.size ≤ 256) (R : WP.Res) (k : Nat) (J : Nat → Act → World → Prop) (hJ : Js J s w R (mu s .btw k)) (a : Act) (W : World) (lv wv : Value) (ws : List (List UInt8)) (wb : List UInt8) (hF : Frm w lv wv a) (hS : SW s w W k lv ws) (hR : WP.run .btw ws wb k (s.data.toList.drop k) = R) (hk : k < s.size) (c : UInt8) (hc : s[k] = c) (hb : WP.blk c = false) (hm : WP.may c = true) (hn35 : c.toNat ≠ 35) (hl : ws.length = 16) :
    Pass 0 .btw s w R k J a W := by
  rw [drop_at s k hk, hc] at hR
  rw [WP.run, if_neg (by simp [hb]), if_neg hn35, if_neg (by simp [hm]), if_pos hl] at hR
  refine ⟨_, rfl, ?_⟩
  obtain ⟨u, rfl⟩ := fr_open a _ _ _ _ _ hF.hd hF.hs hF.h1 hF.h5 hF.h6 hF.h7 hF.h8
  clear hF
  obtain ⟨cl1, cl2, cl3⟩ := sw_cells hS
  unfold Fr
  have HS := Lib.hid hS
  have HR := Lib.hid hR
  have HJ := Lib.hid hJ
  clear hS hR hJ
  have ql : ((ws.length : Int) == 16) = true := by simp [hl]
  have HL := Lib.hid hl
  clear hl
  obtain ⟨Al, cl, el⟩ := own_slice HS.out.own
  subst el
  have HM := cm w s k true (by simp [hk])
  have HB := cb c false hb
  clear hb
  have HY := cy c true hm
  clear hm
  obtain ⟨q35a, q35b⟩ : ((c.toNat : Int) == 35) = false ∧ ((c.toNat : Int) != 35) = true := eq_no c 35 hn35
  clear hn35
  go_wp2_with (first | (go_at_call 69; refine (HM.out _ (by assumption) (by assumption)).mono ?_; rintro e w1 ⟨rfl, rfl⟩) | (go_at_call 70; refine (HB.out _).mono ?_; rintro e w1 ⟨rfl, rfl⟩) | (go_at_call 64; refine (HY.out _).mono ?_; rintro e w1 ⟨rfl, rfl⟩) | fail)
  go_quiet (fail)
  go_wp2_with fail
  go_ret3
  rw [← HR.out]
  exact post_err HS.out (k) _ _
set_option maxRecDepth 100000 in
set_option maxHeartbeats 4000000 in
theorem p0_quo (s : ByteArray) (w : World) (hs : s.size ≤ 256) (R : WP.Res) (k : Nat) (J : Nat → Act → World → Prop) (hJ : Js J s w R (mu s .btw k)) (a : Act) (W : World) (lv wv : Value) (ws : List (List UInt8)) (wb : List UInt8) (hF : Frm w lv wv a) (hS : SW s w W k lv ws) (hR : WP.run .btw ws wb k (s.data.toList.drop k) = R) (hk : k < s.size) (c : UInt8) (hc : s[k] = c) (hb : WP.blk c = false) (hm : WP.may c = true) (hn35 : c.toNat ≠ 35) (hn34 : c.toNat = 34) (hl : ws.length < 16) :
    Pass 0 .btw s w R k J a W := by
  rw [drop_at s k hk, hc] at hR
  rw [WP.run, if_neg (by simp [hb]), if_neg hn35, if_neg (by simp [hm]), if_neg (by omega), if_pos hn34] at hR
  refine ⟨_, rfl, ?_⟩
  obtain ⟨u, rfl⟩ := fr_open a _ _ _ _ _ hF.hd hF.hs hF.h1 hF.h5 hF.h6 hF.h7 hF.h8
  clear hF
  obtain ⟨cl1, cl2, cl3⟩ := sw_cells hS
  unfold Fr
  have HS := Lib.hid hS
  have HR := Lib.hid hR
  have HJ := Lib.hid hJ
  clear hS hR hJ
  have ql : ((ws.length : Int) == 16) = false := by simp; omega
  have HL := Lib.hid hl
  clear hl
  obtain ⟨Al, cl, el⟩ := own_slice HS.out.own
  subst el
  have HM := cm w s k true (by simp [hk])
  have HB := cb c false hb
  clear hb
  have HY := cy c true hm
  clear hm
  have hkk : k + 1 ≤ 256 := by omega
  obtain ⟨q35a, q35b⟩ : ((c.toNat : Int) == 35) = false ∧ ((c.toNat : Int) != 35) = true := eq_no c 35 hn35
  clear hn35
  obtain ⟨q34a, q34b⟩ : ((c.toNat : Int) == 34) = true ∧ ((c.toNat : Int) != 34) = false := eq_yes c 34 hn34
  clear hn34
  go_wp2_with (first | (go_at_call 69; refine (HM.out _ (by assumption) (by assumption)).mono ?_; rintro e w1 ⟨rfl, rfl⟩) | (go_at_call 70; refine (HB.out _).mono ?_; rintro e w1 ⟨rfl, rfl⟩) | (go_at_call 64; refine (HY.out _).mono ?_; rintro e w1 ⟨rfl, rfl⟩) | fail)
  go_step3
  exact HJ.out.j2 (k + 1) _ _ (by simp only [mu, off]; omega) ⟨_, _, _, _, ⟨rfl, rfl, rfl, rfl, rfl, rfl, rfl⟩, sw_step1 HS.out (by omega), fun _ => ⟨ow_nil _ _, by simp, HL.out⟩, HR.out⟩
set_option maxRecDepth 100000 in
set_option maxHeartbeats 4000000 in
theorem p0_stroke (s : ByteArray) (w : World) (hs : s.size ≤ 256) (R : WP.Res) (k : Nat) (J : Nat → Act → World → Prop) (hJ : Js J s w R (mu s .btw k)) (a : Act) (W : World) (lv wv : Value) (ws : List (List UInt8)) (wb : List UInt8) (hF : Frm w lv wv a) (hS : SW s w W k lv ws) (hR : WP.run .btw ws wb k (s.data.toList.drop k) = R) (hk : k < s.size) (c : UInt8) (hc : s[k] = c) (hb : WP.blk c = false) (hm : WP.may c = true) (hn35 : c.toNat ≠ 35) (hn34 : c.toNat ≠ 34) (hn92 : c.toNat = 92) (hl : ws.length < 16) :
    Pass 0 .btw s w R k J a W := by
  rw [drop_at s k hk, hc] at hR
  rw [WP.run, if_neg (by simp [hb]), if_neg hn35, if_neg (by simp [hm]), if_neg (by omega), if_neg hn34, if_pos hn92] at hR
  refine ⟨_, rfl, ?_⟩
  obtain ⟨u, rfl⟩ := fr_open a _ _ _ _ _ hF.hd hF.hs hF.h1 hF.h5 hF.h6 hF.h7 hF.h8
  clear hF
  obtain ⟨cl1, cl2, cl3⟩ := sw_cells hS
  unfold Fr
  have HS := Lib.hid hS
  have HR := Lib.hid hR
  have HJ := Lib.hid hJ
  clear hS hR hJ
  have ql : ((ws.length : Int) == 16) = false := by simp; omega
  have HL := Lib.hid hl
  clear hl
  obtain ⟨Al, cl, el⟩ := own_slice HS.out.own
  subst el
  have HM := cm w s k true (by simp [hk])
  have HB := cb c false hb
  clear hb
  have HY := cy c true hm
  clear hm
  have hkk : k + 1 ≤ 256 := by omega
  obtain ⟨q35a, q35b⟩ : ((c.toNat : Int) == 35) = false ∧ ((c.toNat : Int) != 35) = true := eq_no c 35 hn35
  clear hn35
  obtain ⟨q34a, q34b⟩ : ((c.toNat : Int) == 34) = false ∧ ((c.toNat : Int) != 34) = true := eq_no c 34 hn34
  clear hn34
  obtain ⟨q92a, q92b⟩ : ((c.toNat : Int) == 92) = true ∧ ((c.toNat : Int) != 92) = false := eq_yes c 92 hn92
  clear hn92
  go_wp2_with (first | (go_at_call 69; refine (HM.out _ (by assumption) (by assumption)).mono ?_; rintro e w1 ⟨rfl, rfl⟩) | (go_at_call 70; refine (HB.out _).mono ?_; rintro e w1 ⟨rfl, rfl⟩) | (go_at_call 64; refine (HY.out _).mono ?_; rintro e w1 ⟨rfl, rfl⟩) | fail)
  go_step3
  go_wp2_with (first | (go_at_call 69; refine (HM.out _ (by assumption) (by assumption)).mono ?_; rintro e w1 ⟨rfl, rfl⟩) | (go_at_call 70; refine (HB.out _).mono ?_; rintro e w1 ⟨rfl, rfl⟩) | (go_at_call 64; refine (HY.out _).mono ?_; rintro e w1 ⟨rfl, rfl⟩) | fail)
  go_quiet (fail)
  go_wp2_with fail
  go_ret3
  rw [← HR.out]
  exact post_err HS.out (k) _ _
set_option maxRecDepth 100000 in
set_option maxHeartbeats 4000000 in
theorem p0_pla (s : ByteArray) (w : World) (hs : s.size ≤ 256) (R : WP.Res) (k : Nat) (J : Nat → Act → World → Prop) (hJ : Js J s w R (mu s .btw k)) (a : Act) (W : World) (lv wv : Value) (ws : List (List UInt8)) (wb : List UInt8) (hF : Frm w lv wv a) (hS : SW s w W k lv ws) (hR : WP.run .btw ws wb k (s.data.toList.drop k) = R) (hk : k < s.size) (c : UInt8) (hc : s[k] = c) (hb : WP.blk c = false) (hm : WP.may c = true) (hn35 : c.toNat ≠ 35) (hn34 : c.toNat ≠ 34) (hn92 : c.toNat ≠ 92) (hl : ws.length < 16) :
    Pass 0 .btw s w R k J a W := by
  rw [drop_at s k hk, hc] at hR
  rw [WP.run, if_neg (by simp [hb]), if_neg hn35, if_neg (by simp [hm]), if_neg (by omega), if_neg hn34, if_neg hn92] at hR
  refine ⟨_, rfl, ?_⟩
  obtain ⟨u, rfl⟩ := fr_open a _ _ _ _ _ hF.hd hF.hs hF.h1 hF.h5 hF.h6 hF.h7 hF.h8
  clear hF
  obtain ⟨cl1, cl2, cl3⟩ := sw_cells hS
  unfold Fr
  have HS := Lib.hid hS
  have HR := Lib.hid hR
  have HJ := Lib.hid hJ
  clear hS hR hJ
  have ql : ((ws.length : Int) == 16) = false := by simp; omega
  have HL := Lib.hid hl
  clear hl
  obtain ⟨Al, cl, el⟩ := own_slice HS.out.own
  subst el
  have HM := cm w s k true (by simp [hk])
  have HB := cb c false hb
  clear hb
  have HY := cy c true hm
  clear hm
  have hkk : k + 1 ≤ 256 := by omega
  have HZ : Hid (w.heap.size + 2 ≤ W.heap.size) := Lib.hid (by have := blk_lt HS.out.ha; omega)
  have HO := Lib.hid (ow_nil w W)
  have HW := Lib.hid (HS.out)
  obtain ⟨q35a, q35b⟩ : ((c.toNat : Int) == 35) = false ∧ ((c.toNat : Int) != 35) = true := eq_no c 35 hn35
  clear hn35
  obtain ⟨q34a, q34b⟩ : ((c.toNat : Int) == 34) = false ∧ ((c.toNat : Int) != 34) = true := eq_no c 34 hn34
  clear hn34
  obtain ⟨q92a, q92b⟩ : ((c.toNat : Int) == 92) = false ∧ ((c.toNat : Int) != 92) = true := eq_no c 92 hn92
  clear hn92
  go_wp2_with (first | (go_at_call 69; refine (HM.out _ (by assumption) (by assumption)).mono ?_; rintro e w1 ⟨rfl, rfl⟩) | (go_at_call 70; refine (HB.out _).mono ?_; rintro e w1 ⟨rfl, rfl⟩) | (go_at_call 64; refine (HY.out _).mono ?_; rintro e w1 ⟨rfl, rfl⟩) | fail)
  go_step3
  go_wp2_with (first | (at_builtin; refine print_append_num (w0 := _) (w.heap.size + 2) rfl (.tmp 76) (.tmp 80) 80 5 .u8 1 rfl Tryz.underlying80 info8 (by decide) (.slice none 0 0) (by8 []) (c.toNat : Int) rfl (by first | rfl | (rw [show ∀ (X : World) p v, (X.setCell p v).heap.size = X.heap.size from fun X p v => by simp]; rfl)) (by rw [by8_len]; exact HO.out) (Below.refl _ _) (HZ.out) (by rw [by8_len]; first | omega | simp) ?_; intro v1 w1 hown hbel hg hat; have S1 := Lib.hid (sw_byte HW.out (HO.out) hbel hg); have O1 := Lib.hid (ow_byte hown); clear hown hbel hg hat; obtain ⟨d1, d2, d3⟩ := sw_cells S1.out) | (go_at_call 69; refine (HM.out _ (by assumption) (by assumption)).mono ?_; rintro e w1 ⟨rfl, rfl⟩) | (go_at_call 70; refine (HB.out _).mono ?_; rintro e w1 ⟨rfl, rfl⟩) | (go_at_call 64; refine (HY.out _).mono ?_; rintro e w1 ⟨rfl, rfl⟩) | fail)
  go_step3
  exact HJ.out.j3 (k + 1) _ _ (by simp only [mu, off]; omega) ⟨_, _, _, _, ⟨rfl, rfl, rfl, rfl, rfl, rfl, rfl⟩, sw_step1 S1.out (by omega), fun _ => ⟨ow_step O1.out _, by simp, HL.out⟩, HR.out⟩
set_option maxRecDepth 100000 in
set_option maxHeartbeats 4000000 in
theorem p3_end (s : ByteArray) (w : World) (hs : s.size ≤ 256) (R : WP.Res) (k : Nat) (J : Nat → Act → World → Prop) (hJ : Js J s w R (mu s .pla k)) (a : Act) (W : World) (lv wv : Value) (ws : List (List UInt8)) (wb : List UInt8) (hF : Frm w lv wv a) (hS : SW s w W k lv ws) (ho : OW w W wv wb) (hwl : wb.length ≤ k) (hws : ws.length < 16) (hR : WP.run .pla ws wb k (s.data.toList.drop k) = R) (hk : s.size ≤ k) :
    Pass 3 .pla s w R k J a W := by
  rw [drop_end s k hk] at hR
  have hR2 : WP.run .btw (ws ++ [wb]) [] k (s.data.toList.drop k) = R := by rw [drop_end s k hk, ← hR]; rfl
  have HR2 := Lib.hid hR2
  clear hR2
  refine ⟨_, rfl, ?_⟩
  obtain ⟨u, rfl⟩ := fr_open a _ _ _ _ _ hF.hd hF.hs hF.h1 hF.h5 hF.h6 hF.h7 hF.h8
  clear hF
  obtain ⟨cl1, cl2, cl3⟩ := sw_cells hS
  unfold Fr
  have HS := Lib.hid hS
  have HR := Lib.hid hR
  have HJ := Lib.hid hJ
  clear hS hR hJ
  have HO := Lib.hid ho
  clear ho
  have HM := cm w s k false (by simp; omega)
  have hcv := own_string (P := Tryz.prog) Tryz.underlying80 Tryz.underlying5 Tryz.underlying9 HO.out
  have HZ : Hid (w.heap.size + 2 ≤ W.heap.size) := Lib.hid (by have := blk_lt HS.out.ha; omega)
  have HW := Lib.hid (HS.out)
  go_wp2_with (first | (at_builtin; refine print_append (w0 := _) (w.heap.size + 2) rfl (.tmp 84) (.tmp 87) 22 9 (.string ByteArray.empty) 16 rfl Tryz.underlying22 infoS rfl (by decide) lv (strs ws) (.string (strOfNums (by8 wb))) rfl (by first | rfl | (rw [show ∀ (X : World) p v, (X.setCell p v).heap.size = X.heap.size from fun X p v => by simp]; rfl)) rfl (by rw [strs_len]; exact HW.out.own) (Below.refl _ _) (HZ.out) (by rw [strs_len]; omega) ?_; intro v1 w1 hown hbel hg hat; have S1 := Lib.hid (sw_word HW.out hws hbel hown); clear hown hbel hg hat; obtain ⟨d1, d2, d3⟩ := sw_cells S1.out) | (go_at_call 69; refine (HM.out _ (by assumption) (by assumption)).mono ?_; rintro e w1 ⟨rfl, rfl⟩) | fail)
  go_step3
  exact HJ.out.j0 (k) _ _ (by simp only [mu, off]; omega) ⟨_, _, _, _, ⟨rfl, rfl, rfl, rfl, rfl, rfl, rfl⟩, S1.out, by simp, HR2.out⟩
set_option maxRecDepth 100000 in
set_option maxHeartbeats 4000000 in
theorem p3_blk (s : ByteArray) (w : World) (hs : s.size ≤ 256) (R : WP.Res) (k : Nat) (J : Nat → Act → World → Prop) (hJ : Js J s w R (mu s .pla k)) (a : Act) (W : World) (lv wv : Value) (ws : List (List UInt8)) (wb : List UInt8) (hF : Frm w lv wv a) (hS : SW s w W k lv ws) (ho : OW w W wv wb) (hwl : wb.length ≤ k) (hws : ws.length < 16) (hR : WP.run .pla ws wb k (s.data.toList.drop k) = R) (hk : k < s.size) (c : UInt8) (hc : s[k] = c) (hb : WP.blk c = true) :
    Pass 3 .pla s w R k J a W := by
  rw [drop_at s k hk, hc] at hR
  have hR2 : WP.run .btw (ws ++ [wb]) [] k (s.data.toList.drop k) = R := by rw [drop_at s k hk, hc, WP.run, if_pos hb]; rw [WP.run, if_pos hb] at hR; exact hR
  have HR2 := Lib.hid hR2
  clear hR2
  refine ⟨_, rfl, ?_⟩
  obtain ⟨u, rfl⟩ := fr_open a _ _ _ _ _ hF.hd hF.hs hF.h1 hF.h5 hF.h6 hF.h7 hF.h8
  clear hF
  obtain ⟨cl1, cl2, cl3⟩ := sw_cells hS
  unfold Fr
  have HS := Lib.hid hS
  have HR := Lib.hid hR
  have HJ := Lib.hid hJ
  clear hS hR hJ
  have HO := Lib.hid ho
  clear ho
  have HM := cm w s k true (by simp [hk])
  have HB := cb c true hb
  clear hb
  have hcv := own_string (P := Tryz.prog) Tryz.underlying80 Tryz.underlying5 Tryz.underlying9 HO.out
  have HZ : Hid (w.heap.size + 2 ≤ W.heap.size) := Lib.hid (by have := blk_lt HS.out.ha; omega)
  have HW := Lib.hid (HS.out)
  go_wp2_with (first | (at_builtin; refine print_append (w0 := _) (w.heap.size + 2) rfl (.tmp 84) (.tmp 87) 22 9 (.string ByteArray.empty) 16 rfl Tryz.underlying22 infoS rfl (by decide) lv (strs ws) (.string (strOfNums (by8 wb))) rfl (by first | rfl | (rw [show ∀ (X : World) p v, (X.setCell p v).heap.size = X.heap.size from fun X p v => by simp]; rfl)) rfl (by rw [strs_len]; exact HW.out.own) (Below.refl _ _) (HZ.out) (by rw [strs_len]; omega) ?_; intro v1 w1 hown hbel hg hat; have S1 := Lib.hid (sw_word HW.out hws hbel hown); clear hown hbel hg hat; obtain ⟨d1, d2, d3⟩ := sw_cells S1.out) | (go_at_call 69; refine (HM.out _ (by assumption) (by assumption)).mono ?_; rintro e w1 ⟨rfl, rfl⟩) | (go_at_call 70; refine (HB.out _).mono ?_; rintro e w1 ⟨rfl, rfl⟩) | fail)
  go_step3
  exact HJ.out.j0 (k) _ _ (by simp only [mu, off]; omega) ⟨_, _, _, _, ⟨rfl, rfl, rfl, rfl, rfl, rfl, rfl⟩, S1.out, by simp, HR2.out⟩
set_option maxRecDepth 100000 in
set_option maxHeartbeats 4000000 in
theorem p3_bad (s : ByteArray) (w : World) (hs : s.size ≤ 256) (R : WP.Res) (k : Nat) (J : Nat → Act → World → Prop) (hJ : Js J s w R (mu s .pla k)) (a : Act) (W : World) (lv wv : Value) (ws : List (List UInt8)) (wb : List UInt8) (hF : Frm w lv wv a) (hS : SW s w W k lv ws) (ho : OW w W wv wb) (hwl : wb.length ≤ k) (hws : ws.length < 16) (hR : WP.run .pla ws wb k (s.data.toList.drop k) = R) (hk : k < s.size) (c : UInt8) (hc : s[k] = c) (hb : WP.blk c = false) (hm : WP.may c = false) :
    Pass 3 .pla s w R k J a W := by
  rw [drop_at s k hk, hc] at hR
  rw [WP.run, if_neg (by simp [hb]), if_pos (.inl hm)] at hR
  refine ⟨_, rfl, ?_⟩
  obtain ⟨u, rfl⟩ := fr_open a _ _ _ _ _ hF.hd hF.hs hF.h1 hF.h5 hF.h6 hF.h7 hF.h8
  clear hF
  obtain ⟨cl1, cl2, cl3⟩ := sw_cells hS
  unfold Fr
  have HS := Lib.hid hS
  have HR := Lib.hid hR
  have HJ := Lib.hid hJ
  clear hS hR hJ
  have HO := Lib.hid ho
  clear ho
  have HM := cm w s k true (by simp [hk])
  have HB := cb c false hb
  clear hb
  have HY := cy c false hm
  clear hm
  go_wp2_with (first | (go_at_call 69; refine (HM.out _ (by assumption) (by assumption)).mono ?_; rintro e w1 ⟨rfl, rfl⟩) | (go_at_call 70; refine (HB.out _).mono ?_; rintro e w1 ⟨rfl, rfl⟩) | (go_at_call 64; refine (HY.out _).mono ?_; rintro e w1 ⟨rfl, rfl⟩) | fail)
  go_quiet (fail)
  go_wp2_with fail
  go_ret3
  rw [← HR.out]
  exact post_err HS.out (k) _ _
set_option maxRecDepth 100000 in
set_option maxHeartbeats 4000000 in
theorem p3_bad34 (s : ByteArray) (w : World) (hs : s.size ≤ 256) (R : WP.Res) (k : Nat) (J : Nat → Act → World → Prop) (hJ : Js J s w R (mu s .pla k)) (a : Act) (W : World) (lv wv : Value) (ws : List (List UInt8)) (wb : List UInt8) (hF : Frm w lv wv a) (hS : SW s w W k lv ws) (ho : OW w W wv wb) (hwl : wb.length ≤ k) (hws : ws.length < 16) (hR : WP.run .pla ws wb k (s.data.toList.drop k) = R) (hk : k < s.size) (c : UInt8) (hc : s[k] = c) (hb : WP.blk c = false) (hm : WP.may c = true) (hn34 : c.toNat = 34) :
    Pass 3 .pla s w R k J a W := by
  rw [drop_at s k hk, hc] at hR
  rw [WP.run, if_neg (by simp [hb]), if_pos (.inr (.inl hn34))] at hR
  refine ⟨_, rfl, ?_⟩
  obtain ⟨u, rfl⟩ := fr_open a _ _ _ _ _ hF.hd hF.hs hF.h1 hF.h5 hF.h6 hF.h7 hF.h8
  clear hF
  obtain ⟨cl1, cl2, cl3⟩ := sw_cells hS
  unfold Fr
  have HS := Lib.hid hS
  have HR := Lib.hid hR
  have HJ := Lib.hid hJ
  clear hS hR hJ
  have HO := Lib.hid ho
  clear ho
  have HM := cm w s k true (by simp [hk])
  have HB := cb c false hb
  clear hb
  have HY := cy c true hm
  clear hm
  obtain ⟨q34a, q34b⟩ : ((c.toNat : Int) == 34) = true ∧ ((c.toNat : Int) != 34) = false := eq_yes c 34 hn34
  clear hn34
  go_wp2_with (first | (go_at_call 69; refine (HM.out _ (by assumption) (by assumption)).mono ?_; rintro e w1 ⟨rfl, rfl⟩) | (go_at_call 70; refine (HB.out _).mono ?_; rintro e w1 ⟨rfl, rfl⟩) | (go_at_call 64; refine (HY.out _).mono ?_; rintro e w1 ⟨rfl, rfl⟩) | fail)
  go_quiet (fail)
  go_wp2_with fail
  go_ret3
  rw [← HR.out]
  exact post_err HS.out (k) _ _
set_option maxRecDepth 100000 in
set_option maxHeartbeats 4000000 in
theorem p3_bad92 (s : ByteArray) (w : World) (hs : s.size ≤ 256) (R : WP.Res) (k : Nat) (J : Nat → Act → World → Prop) (hJ : Js J s w R (mu s .pla k)) (a : Act) (W : World) (lv wv : Value) (ws : List (List UInt8)) (wb : List UInt8) (hF : Frm w lv wv a) (hS : SW s w W k lv ws) (ho : OW w W wv wb) (hwl : wb.length ≤ k) (hws : ws.length < 16) (hR : WP.run .pla ws wb k (s.data.toList.drop k) = R) (hk : k < s.size) (c : UInt8) (hc : s[k] = c) (hb : WP.blk c = false) (hm : WP.may c = true) (hn34 : c.toNat ≠ 34) (hn92 : c.toNat = 92) :
    Pass 3 .pla s w R k J a W := by
  rw [drop_at s k hk, hc] at hR
  rw [WP.run, if_neg (by simp [hb]), if_pos (.inr (.inr hn92))] at hR
  refine ⟨_, rfl, ?_⟩
  obtain ⟨u, rfl⟩ := fr_open a _ _ _ _ _ hF.hd hF.hs hF.h1 hF.h5 hF.h6 hF.h7 hF.h8
  clear hF
  obtain ⟨cl1, cl2, cl3⟩ := sw_cells hS
  unfold Fr
  have HS := Lib.hid hS
  have HR := Lib.hid hR
  have HJ := Lib.hid hJ
  clear hS hR hJ
  have HO := Lib.hid ho
  clear ho
  have HM := cm w s k true (by simp [hk])
  have HB := cb c false hb
  clear hb
  have HY := cy c true hm
  clear hm
  obtain ⟨q34a, q34b⟩ : ((c.toNat : Int) == 34) = false ∧ ((c.toNat : Int) != 34) = true := eq_no c 34 hn34
  clear hn34
  obtain ⟨q92a, q92b⟩ : ((c.toNat : Int) == 92) = true ∧ ((c.toNat : Int) != 92) = false := eq_yes c 92 hn92
  clear hn92
  go_wp2_with (first | (go_at_call 69; refine (HM.out _ (by assumption) (by assumption)).mono ?_; rintro e w1 ⟨rfl, rfl⟩) | (go_at_call 70; refine (HB.out _).mono ?_; rintro e w1 ⟨rfl, rfl⟩) | (go_at_call 64; refine (HY.out _).mono ?_; rintro e w1 ⟨rfl, rfl⟩) | fail)
  go_quiet (fail)
  go_wp2_with fail
  go_ret3
  rw [← HR.out]
  exact post_err HS.out (k) _ _
set_option maxRecDepth 100000 in
set_option maxHeartbeats 4000000 in
theorem p3_go (s : ByteArray) (w : World) (hs : s.size ≤ 256) (R : WP.Res) (k : Nat) (J : Nat → Act → World → Prop) (hJ : Js J s w R (mu s .pla k)) (a : Act) (W : World) (lv wv : Value) (ws : List (List UInt8)) (wb : List UInt8) (hF : Frm w lv wv a) (hS : SW s w W k lv ws) (ho : OW w W wv wb) (hwl : wb.length ≤ k) (hws : ws.length < 16) (hR : WP.run .pla ws wb k (s.data.toList.drop k) = R) (hk : k < s.size) (c : UInt8) (hc : s[k] = c) (hb : WP.blk c = false) (hm : WP.may c = true) (hn34 : c.toNat ≠ 34) (hn92 : c.toNat ≠ 92) :
    Pass 3 .pla s w R k J a W := by
  rw [drop_at s k hk, hc] at hR
  rw [WP.run, if_neg (by simp [hb]), if_neg (by simp [hm, hn34, hn92])] at hR
  refine ⟨_, rfl, ?_⟩
  obtain ⟨u, rfl⟩ := fr_open a _ _ _ _ _ hF.hd hF.hs hF.h1 hF.h5 hF.h6 hF.h7 hF.h8
  clear hF
  obtain ⟨cl1, cl2, cl3⟩ := sw_cells hS
  unfold Fr
  have HS := Lib.hid hS
  have HR := Lib.hid hR
  have HJ := Lib.hid hJ
  clear hS hR hJ
  have HO := Lib.hid ho
  clear ho
  have HM := cm w s k true (by simp [hk])
  have HB := cb c false hb
  clear hb
  have HY := cy c true hm
  clear hm
  have hkk : k + 1 ≤ 256 := by omega
  have HZ : Hid (w.heap.size + 2 ≤ W.heap.size) := Lib.hid (by have := blk_lt HS.out.ha; omega)
  have HW := Lib.hid (HS.out)
  obtain ⟨q34a, q34b⟩ : ((c.toNat : Int) == 34) = false ∧ ((c.toNat : Int) != 34) = true := eq_no c 34 hn34
  clear hn34
  obtain ⟨q92a, q92b⟩ : ((c.toNat : Int) == 92) = false ∧ ((c.toNat : Int) != 92) = true := eq_no c 92 hn92
  clear hn92
  go_wp2_with (first | (at_builtin; refine print_append_num (w0 := _) (w.heap.size + 2) rfl (.tmp 76) (.tmp 80) 80 5 .u8 1 rfl Tryz.underlying80 info8 (by decide) (wv) (by8 wb) (c.toNat : Int) rfl (by first | rfl | (rw [show ∀ (X : World) p v, (X.setCell p v).heap.size = X.heap.size from fun X p v => by simp]; rfl)) (by rw [by8_len]; exact HO.out) (Below.refl _ _) (HZ.out) (by rw [by8_len]; first | omega | simp) ?_; intro v1 w1 hown hbel hg hat; have S1 := Lib.hid (sw_byte HW.out (HO.out) hbel hg); have O1 := Lib.hid (ow_byte hown); clear hown hbel hg hat; obtain ⟨d1, d2, d3⟩ := sw_cells S1.out) | (go_at_call 69; refine (HM.out _ (by assumption) (by assumption)).mono ?_; rintro e w1 ⟨rfl, rfl⟩) | (go_at_call 70; refine (HB.out _).mono ?_; rintro e w1 ⟨rfl, rfl⟩) | (go_at_call 64; refine (HY.out _).mono ?_; rintro e w1 ⟨rfl, rfl⟩) | fail)
  go_step3
  exact HJ.out.j3 (k + 1) _ _ (by simp only [mu, off]; omega) ⟨_, _, _, _, ⟨rfl, rfl, rfl, rfl, rfl, rfl, rfl⟩, sw_step1 S1.out (by omega), fun _ => ⟨ow_step O1.out _, by simp; omega, hws⟩, HR.out⟩
set_option maxRecDepth 100000 in
set_option maxHeartbeats 4000000 in
theorem p2_end (s : ByteArray) (w : World) (hs : s.size ≤ 256) (R : WP.Res) (k : Nat) (J : Nat → Act → World → Prop) (hJ : Js J s w R (mu s .quo k)) (a : Act) (W : World) (lv wv : Value) (ws : List (List UInt8)) (wb : List UInt8) (hF : Frm w lv wv a) (hS : SW s w W k lv ws) (ho : OW w W wv wb) (hwl : wb.length ≤ k) (hws : ws.length < 16) (hR : WP.run .quo ws wb k (s.data.toList.drop k) = R) (hk : s.size ≤ k) :
    Pass 2 .quo s w R k J a W := by
  rw [drop_end s k hk] at hR
  change ([], k, 150) = R at hR
  refine ⟨_, rfl, ?_⟩
  obtain ⟨u, rfl⟩ := fr_open a _ _ _ _ _ hF.hd hF.hs hF.h1 hF.h5 hF.h6 hF.h7 hF.h8
  clear hF
  obtain ⟨cl1, cl2, cl3⟩ := sw_cells hS
  unfold Fr
  have HS := Lib.hid hS
  have HR := Lib.hid hR
  have HJ := Lib.hid hJ
  clear hS hR hJ
  have HO := Lib.hid ho
  clear ho
  have HM := cm w s k false (by simp; omega)
  go_wp2_with (first | (go_at_call 69; refine (HM.out _ (by assumption) (by assumption)).mono ?_; rintro e w1 ⟨rfl, rfl⟩) | fail)
  go_quiet (fail)
  go_wp2_with fail
  go_ret3
  rw [← HR.out]
  exact post_err HS.out (k) _ _
set_option maxRecDepth 100000 in
set_option maxHeartbeats 4000000 in
theorem p2_bad (s : ByteArray) (w : World) (hs : s.size ≤ 256) (R : WP.Res) (k : Nat) (J : Nat → Act → World → Prop) (hJ : Js J s w R (mu s .quo k)) (a : Act) (W : World) (lv wv : Value) (ws : List (List UInt8)) (wb : List UInt8) (hF : Frm w lv wv a) (hS : SW s w W k lv ws) (ho : OW w W wv wb) (hwl : wb.length ≤ k) (hws : ws.length < 16) (hR : WP.run .quo ws wb k (s.data.toList.drop k) = R) (hk : k < s.size) (c : UInt8) (hc : s[k] = c) (hm : WP.may c = false) :
    Pass 2 .quo s w R k J a W := by
  rw [drop_at s k hk, hc] at hR
  rw [WP.run, if_pos hm] at hR
  refine ⟨_, rfl, ?_⟩
  obtain ⟨u, rfl⟩ := fr_open a _ _ _ _ _ hF.hd hF.hs hF.h1 hF.h5 hF.h6 hF.h7 hF.h8
  clear hF
  obtain ⟨cl1, cl2, cl3⟩ := sw_cells hS
  unfold Fr
  have HS := Lib.hid hS
  have HR := Lib.hid hR
  have HJ := Lib.hid hJ
  clear hS hR hJ
  have HO := Lib.hid ho
  clear ho
  have HM := cm w s k true (by simp [hk])
  have HY := cy c false hm
  clear hm
  go_wp2_with (first | (go_at_call 69; refine (HM.out _ (by assumption) (by assumption)).mono ?_; rintro e w1 ⟨rfl, rfl⟩) | (go_at_call 64; refine (HY.out _).mono ?_; rintro e w1 ⟨rfl, rfl⟩) | fail)
  go_quiet (fail)
  go_wp2_with fail
  go_ret3
  rw [← HR.out]
  exact post_err HS.out (k) _ _
set_option maxRecDepth 100000 in
set_option maxHeartbeats 4000000 in
theorem p2_go (s : ByteArray) (w : World) (hs : s.size ≤ 256) (R : WP.Res) (k : Nat) (J : Nat → Act → World → Prop) (hJ : Js J s w R (mu s .quo k)) (a : Act) (W : World) (lv wv : Value) (ws : List (List UInt8)) (wb : List UInt8) (hF : Frm w lv wv a) (hS : SW s w W k lv ws) (ho : OW w W wv wb) (hwl : wb.length ≤ k) (hws : ws.length < 16) (hR : WP.run .quo ws wb k (s.data.toList.drop k) = R) (hk : k < s.size) (c : UInt8) (hc : s[k] = c) (hm : WP.may c = true) (hn34 : c.toNat ≠ 34) (hn92 : c.toNat ≠ 92) :
    Pass 2 .quo s w R k J a W := by
  rw [drop_at s k hk, hc] at hR
  rw [WP.run, if_neg (by simp [hm]), if_neg hn34, if_neg hn92] at hR
  refine ⟨_, rfl, ?_⟩
  obtain ⟨u, rfl⟩ := fr_open a _ _ _ _ _ hF.hd hF.hs hF.h1 hF.h5 hF.h6 hF.h7 hF.h8
  clear hF
  obtain ⟨cl1, cl2, cl3⟩ := sw_cells hS
  unfold Fr
  have HS := Lib.hid hS
  have HR := Lib.hid hR
  have HJ := Lib.hid hJ
  clear hS hR hJ
  have HO := Lib.hid ho
  clear ho
  have HM := cm w s k true (by simp [hk])
  have HY := cy c true hm
  clear hm
  have hkk : k + 1 ≤ 256 := by omega
  have HZ : Hid (w.heap.size + 2 ≤ W.heap.size) := Lib.hid (by have := blk_lt HS.out.ha; omega)
  have HW := Lib.hid (HS.out)
  obtain ⟨q34a, q34b⟩ : ((c.toNat : Int) == 34) = false ∧ ((c.toNat : Int) != 34) = true := eq_no c 34 hn34
  clear hn34
  obtain ⟨q92a, q92b⟩ : ((c.toNat : Int) == 92) = false ∧ ((c.toNat : Int) != 92) = true := eq_no c 92 hn92
  clear hn92
  go_wp2_with (first | (at_builtin; refine print_append_num (w0 := _) (w.heap.size + 2) rfl (.tmp 143) (.tmp 147) 80 5 .u8 1 rfl Tryz.underlying80 info8 (by decide) (wv) (by8 wb) (c.toNat : Int) rfl (by first | rfl | (rw [show ∀ (X : World) p v, (X.setCell p v).heap.size = X.heap.size from fun X p v => by simp]; rfl)) (by rw [by8_len]; exact HO.out) (Below.refl _ _) (HZ.out) (by rw [by8_len]; first | omega | simp) ?_; intro v1 w1 hown hbel hg hat; have S1 := Lib.hid (sw_byte HW.out (HO.out) hbel hg); have O1 := Lib.hid (ow_byte hown); clear hown hbel hg hat; obtain ⟨d1, d2, d3⟩ := sw_cells S1.out) | (go_at_call 69; refine (HM.out _ (by assumption) (by assumption)).mono ?_; rintro e w1 ⟨rfl, rfl⟩) | (go_at_call 64; refine (HY.out _).mono ?_; rintro e w1 ⟨rfl, rfl⟩) | fail)
  go_step3
  exact HJ.out.j2 (k + 1) _ _ (by simp only [mu, off]; omega) ⟨_, _, _, _, ⟨rfl, rfl, rfl, rfl, rfl, rfl, rfl⟩, sw_step1 S1.out (by omega), fun _ => ⟨ow_step O1.out _, by simp; omega, hws⟩, HR.out⟩
set_option maxRecDepth 100000 in
set_option maxHeartbeats 4000000 in
theorem p2_qend (s : ByteArray) (w : World) (hs : s.size ≤ 256) (R : WP.Res) (k : Nat) (J : Nat → Act → World → Prop) (hJ : Js J s w R (mu s .quo k)) (a : Act) (W : World) (lv wv : Value) (ws : List (List UInt8)) (wb : List UInt8) (hF : Frm w lv wv a) (hS : SW s w W k lv ws) (ho : OW w W wv wb) (hwl : wb.length ≤ k) (hws : ws.length < 16) (hR : WP.run .quo ws wb k (s.data.toList.drop k) = R) (hk : k < s.size) (c : UInt8) (hc : s[k] = c) (hm : WP.may c = true) (hn34 : c.toNat = 34) (hk2 : s.size ≤ k + 1) :
    Pass 2 .quo s w R k J a W := by
  rw [drop_at s k hk, hc] at hR
  rw [WP.run, if_neg (by simp [hm]), if_pos hn34] at hR
  have hR2 : WP.run .btw (ws ++ [wb]) [] (k + 1) (s.data.toList.drop (k + 1)) = R := by rw [← hR]; symm; refine WP.run_end _ _ _ _ (.inr rfl) _ ?_; rw [drop_end s (k + 1) hk2]; intro c t h; cases h
  have HR2 := Lib.hid hR2
  clear hR2
  refine ⟨_, rfl, ?_⟩
  obtain ⟨u, rfl⟩ := fr_open a _ _ _ _ _ hF.hd hF.hs hF.h1 hF.h5 hF.h6 hF.h7 hF.h8
  clear hF
  obtain ⟨cl1, cl2, cl3⟩ := sw_cells hS
  unfold Fr
  have HS := Lib.hid hS
  have HR := Lib.hid hR
  have HJ := Lib.hid hJ
  clear hS hR hJ
  have HO := Lib.hid ho
  clear ho
  have HM := cm w s k true (by simp [hk])
  have HY := cy c true hm
  clear hm
  have hkk : k + 1 ≤ 256 := by omega
  have HT := Lib.hid (sw_step1 HS.out (by omega))
  obtain ⟨e1, e2, e3⟩ := sw_cells HT.out
  have HM2 := cm1 w s k false (by simp; omega)
  have hcv := own_string (P := Tryz.prog) Tryz.underlying80 Tryz.underlying5 Tryz.underlying9 (ow_step HO.out (.int .i64 ((k : Int) + 1)))
  have HZ : Hid (w.heap.size + 2 ≤ (W.setCell ⟨w.heap.size + 1, 0, none⟩ (.int .i64 ((k : Int) + 1))).heap.size) := Lib.hid (by have := blk_lt HT.out.ha; omega)
  have HW := Lib.hid (HT.out)
  obtain ⟨q34a, q34b⟩ : ((c.toNat : Int) == 34) = true ∧ ((c.toNat : Int) != 34) = false := eq_yes c 34 hn34
  clear hn34
  go_wp2_with (first | (at_builtin; refine print_append (w0 := _) (w.heap.size + 2) rfl (.tmp 116) (.tmp 119) 22 9 (.string ByteArray.empty) 16 rfl Tryz.underlying22 infoS rfl (by decide) lv (strs ws) (.string (strOfNums (by8 wb))) rfl (by first | rfl | (rw [show ∀ (X : World) p v, (X.setCell p v).heap.size = X.heap.size from fun X p v => by simp]; rfl)) rfl (by rw [strs_len]; exact HW.out.own) (Below.refl _ _) (HZ.out) (by rw [strs_len]; omega) ?_; intro v1 w1 hown hbel hg hat; have S1 := Lib.hid (sw_word HW.out hws hbel hown); clear hown hbel hg hat; obtain ⟨d1, d2, d3⟩ := sw_cells S1.out) | (go_at_call 69; first | (refine (HM.out _ (by assumption) (by assumption)).mono ?_; rintro e w1 ⟨rfl, rfl⟩) | (refine (HM2.out _ (by first | assumption | (simp; done)) (by first | assumption | (simp; assumption))).mono ?_; rintro e w1 ⟨rfl, rfl⟩)) | (go_at_call 64; refine (HY.out _).mono ?_; rintro e w1 ⟨rfl, rfl⟩) | fail)
  go_step3
  exact HJ.out.j0 (k + 1) _ _ (by simp only [mu, off]; omega) ⟨_, _, _, _, ⟨rfl, rfl, rfl, rfl, rfl, rfl, rfl⟩, S1.out, by simp, HR2.out⟩
set_option maxRecDepth 100000 in
set_option maxHeartbeats 4000000 in
theorem p2_qblk (s : ByteArray) (w : World) (hs : s.size ≤ 256) (R : WP.Res) (k : Nat) (J : Nat → Act → World → Prop) (hJ : Js J s w R (mu s .quo k)) (a : Act) (W : World) (lv wv : Value) (ws : List (List UInt8)) (wb : List UInt8) (hF : Frm w lv wv a) (hS : SW s w W k lv ws) (ho : OW w W wv wb) (hwl : wb.length ≤ k) (hws : ws.length < 16) (hR : WP.run .quo ws wb k (s.data.toList.drop k) = R) (hk : k < s.size) (c : UInt8) (hc : s[k] = c) (hm : WP.may c = true) (hn34 : c.toNat = 34) (hk2 : k + 1 < s.size) (c2 : UInt8) (hc2 : s[k + 1] = c2) (hb : WP.blk c2 = true) :
    Pass 2 .quo s w R k J a W := by
  rw [drop_at s k hk, hc] at hR
  rw [WP.run, if_neg (by simp [hm]), if_pos hn34] at hR
  have hR2 : WP.run .btw (ws ++ [wb]) [] (k + 1) (s.data.toList.drop (k + 1)) = R := by rw [← hR]; symm; refine WP.run_end _ _ _ _ (.inr rfl) _ ?_; rw [drop_at s (k + 1) hk2, hc2]; intro c t h; cases h; exact hb
  have HR2 := Lib.hid hR2
  clear hR2
  refine ⟨_, rfl, ?_⟩
  obtain ⟨u, rfl⟩ := fr_open a _ _ _ _ _ hF.hd hF.hs hF.h1 hF.h5 hF.h6 hF.h7 hF.h8
  clear hF
  obtain ⟨cl1, cl2, cl3⟩ := sw_cells hS
  unfold Fr
  have HS := Lib.hid hS
  have HR := Lib.hid hR
  have HJ := Lib.hid hJ
  clear hS hR hJ
  have HO := Lib.hid ho
  clear ho
  have HM := cm w s k true (by simp [hk])
  have HY := cy c true hm
  clear hm
  have hkk : k + 1 ≤ 256 := by omega
  have HT := Lib.hid (sw_step1 HS.out (by omega))
  obtain ⟨e1, e2, e3⟩ := sw_cells HT.out
  have HM2 := cm1 w s k true (by simp; omega)
  have HB := cb c2 true hb
  clear hb
  have hcv := own_string (P := Tryz.prog) Tryz.underlying80 Tryz.underlying5 Tryz.underlying9 (ow_step HO.out (.int .i64 ((k : Int) + 1)))
  have HZ : Hid (w.heap.size + 2 ≤ (W.setCell ⟨w.heap.size + 1, 0, none⟩ (.int .i64 ((k : Int) + 1))).heap.size) := Lib.hid (by have := blk_lt HT.out.ha; omega)
  have HW := Lib.hid (HT.out)
  obtain ⟨q34a, q34b⟩ : ((c.toNat : Int) == 34) = true ∧ ((c.toNat : Int) != 34) = false := eq_yes c 34 hn34
  clear hn34
  go_wp2_with (first | (at_builtin; refine print_append (w0 := _) (w.heap.size + 2) rfl (.tmp 116) (.tmp 119) 22 9 (.string ByteArray.empty) 16 rfl Tryz.underlying22 infoS rfl (by decide) lv (strs ws) (.string (strOfNums (by8 wb))) rfl (by first | rfl | (rw [show ∀ (X : World) p v, (X.setCell p v).heap.size = X.heap.size from fun X p v => by simp]; rfl)) rfl (by rw [strs_len]; exact HW.out.own) (Below.refl _ _) (HZ.out) (by rw [strs_len]; omega) ?_; intro v1 w1 hown hbel hg hat; have S1 := Lib.hid (sw_word HW.out hws hbel hown); clear hown hbel hg hat; obtain ⟨d1, d2, d3⟩ := sw_cells S1.out) | (go_at_call 69; first | (refine (HM.out _ (by assumption) (by assumption)).mono ?_; rintro e w1 ⟨rfl, rfl⟩) | (refine (HM2.out _ (by first | assumption | (simp; done)) (by first | assumption | (simp; assumption))).mono ?_; rintro e w1 ⟨rfl, rfl⟩)) | (go_at_call 70; refine (HB.out _).mono ?_; rintro e w1 ⟨rfl, rfl⟩) | (go_at_call 64; refine (HY.out _).mono ?_; rintro e w1 ⟨rfl, rfl⟩) | fail)
  go_step3
  exact HJ.out.j0 (k + 1) _ _ (by simp only [mu, off]; omega) ⟨_, _, _, _, ⟨rfl, rfl, rfl, rfl, rfl, rfl, rfl⟩, S1.out, by simp, HR2.out⟩
set_option maxRecDepth 100000 in
set_option maxHeartbeats 4000000 in
theorem p2_qbad (s : ByteArray) (w : World) (hs : s.size ≤ 256) (R : WP.Res) (k : Nat) (J : Nat → Act → World → Prop) (hJ : Js J s w R (mu s .quo k)) (a : Act) (W : World) (lv wv : Value) (ws : List (List UInt8)) (wb : List UInt8) (hF : Frm w lv wv a) (hS : SW s w W k lv ws) (ho : OW w W wv wb) (hwl : wb.length ≤ k) (hws : ws.length < 16) (hR : WP.run .quo ws wb k (s.data.toList.drop k) = R) (hk : k < s.size) (c : UInt8) (hc : s[k] = c) (hm : WP.may c = true) (hn34 : c.toNat = 34) (hk2 : k + 1 < s.size) (c2 : UInt8) (hc2 : s[k + 1] = c2) (hb : WP.blk c2 = false) :
    Pass 2 .quo s w R k J a W := by
  rw [drop_at s k hk, hc] at hR
  rw [WP.run, if_neg (by simp [hm]), if_pos hn34] at hR
  rw [drop_at s (k + 1) hk2, hc2, WP.run, if_neg (by simp [hb])] at hR
  refine ⟨_, rfl, ?_⟩
  obtain ⟨u, rfl⟩ := fr_open a _ _ _ _ _ hF.hd hF.hs hF.h1 hF.h5 hF.h6 hF.h7 hF.h8
  clear hF
  obtain ⟨cl1, cl2, cl3⟩ := sw_cells hS
  unfold Fr
  have HS := Lib.hid hS
  have HR := Lib.hid hR
  have HJ := Lib.hid hJ
  clear hS hR hJ
  have HO := Lib.hid ho
  clear ho
  have HM := cm w s k true (by simp [hk])
  have HY := cy c true hm
  clear hm
  have hkk : k + 1 ≤ 256 := by omega
  have HT := Lib.hid (sw_step1 HS.out (by omega))
  obtain ⟨e1, e2, e3⟩ := sw_cells HT.out
  have HM2 := cm1 w s k true (by simp; omega)
  have HB := cb c2 false hb
  clear hb
  obtain ⟨q34a, q34b⟩ : ((c.toNat : Int) == 34) = true ∧ ((c.toNat : Int) != 34) = false := eq_yes c 34 hn34
  clear hn34
  go_wp2_with (first | (go_at_call 69; first | (refine (HM.out _ (by assumption) (by assumption)).mono ?_; rintro e w1 ⟨rfl, rfl⟩) | (refine (HM2.out _ (by first | assumption | (simp; done)) (by first | assumption | (simp; assumption))).mono ?_; rintro e w1 ⟨rfl, rfl⟩)) | (go_at_call 70; refine (HB.out _).mono ?_; rintro e w1 ⟨rfl, rfl⟩) | (go_at_call 64; refine (HY.out _).mono ?_; rintro e w1 ⟨rfl, rfl⟩) | fail)
  go_quiet (fail)
  go_wp2_with fail
  go_ret3
  rw [← HR.out]
  exact post_err HT.out (k + 1) _ _
set_option maxRecDepth 100000 in
set_option maxHeartbeats 4000000 in
theorem p2_eend (s : ByteArray) (w : World) (hs : s.size ≤ 256) (R : WP.Res) (k : Nat) (J : Nat → Act → World → Prop) (hJ : Js J s w R (mu s .quo k)) (a : Act) (W : World) (lv wv : Value) (ws : List (List UInt8)) (wb : List UInt8) (hF : Frm w lv wv a) (hS : SW s w W k lv ws) (ho : OW w W wv wb) (hwl : wb.length ≤ k) (hws : ws.length < 16) (hR : WP.run .quo ws wb k (s.data.toList.drop k) = R) (hk : k < s.size) (c : UInt8) (hc : s[k] = c) (hm : WP.may c = true) (hn34 : c.toNat ≠ 34) (hn92 : c.toNat = 92) (hk2 : s.size ≤ k + 1) :
    Pass 2 .quo s w R k J a W := by
  rw [drop_at s k hk, hc] at hR
  rw [WP.run, if_neg (by simp [hm]), if_neg hn34, if_pos hn92] at hR
  rw [drop_end s (k + 1) hk2] at hR
  change ([], k + 1, 150) = R at hR
  refine ⟨_, rfl, ?_⟩
  obtain ⟨u, rfl⟩ := fr_open a _ _ _ _ _ hF.hd hF.hs hF.h1 hF.h5 hF.h6 hF.h7 hF.h8
  clear hF
  obtain ⟨cl1, cl2, cl3⟩ := sw_cells hS
  unfold Fr
  have HS := Lib.hid hS
  have HR := Lib.hid hR
  have HJ := Lib.hid hJ
  clear hS hR hJ
  have HO := Lib.hid ho
  clear ho
  have HM := cm w s k true (by simp [hk])
  have HY := cy c true hm
  clear hm
  have hkk : k + 1 ≤ 256 := by omega
  have HT := Lib.hid (sw_step1 HS.out (by omega))
  obtain ⟨e1, e2, e3⟩ := sw_cells HT.out
  have HM2 := cm1 w s k false (by simp; omega)
  obtain ⟨q34a, q34b⟩ : ((c.toNat : Int) == 34) = false ∧ ((c.toNat : Int) != 34) = true := eq_no c 34 hn34
  clear hn34
  obtain ⟨q92a, q92b⟩ : ((c.toNat : Int) == 92) = true ∧ ((c.toNat : Int) != 92) = false := eq_yes c 92 hn92
  clear hn92
  go_wp2_with (first | (go_at_call 69; first | (refine (HM.out _ (by assumption) (by assumption)).mono ?_; rintro e w1 ⟨rfl, rfl⟩) | (refine (HM2.out _ (by first | assumption | (simp; done)) (by first | assumption | (simp; assumption))).mono ?_; rintro e w1 ⟨rfl, rfl⟩)) | (go_at_call 64; refine (HY.out _).mono ?_; rintro e w1 ⟨rfl, rfl⟩) | fail)
  go_quiet (fail)
  go_wp2_with fail
  go_ret3
  rw [← HR.out]
  exact post_err HT.out (k + 1) _ _
set_option maxRecDepth 100000 in
set_option maxHeartbeats 4000000 in
theorem p2_ebad (s : ByteArray) (w : World) (hs : s.size ≤ 256) (R : WP.Res) (k : Nat) (J : Nat → Act → World → Prop) (hJ : Js J s w R (mu s .quo k)) (a : Act) (W : World) (lv wv : Value) (ws : List (List UInt8)) (wb : List UInt8) (hF : Frm w lv wv a) (hS : SW s w W k lv ws) (ho : OW w W wv wb) (hwl : wb.length ≤ k) (hws : ws.length < 16) (hR : WP.run .quo ws wb k (s.data.toList.drop k) = R) (hk : k < s.size) (c : UInt8) (hc : s[k] = c) (hm : WP.may c = true) (hn34 : c.toNat ≠ 34) (hn92 : c.toNat = 92) (hk2 : k + 1 < s.size) (c2 : UInt8) (hc2 : s[k + 1] = c2) (hr34 : c2.toNat ≠ 34) (hr92 : c2.toNat ≠ 92) :
    Pass 2 .quo s w R k J a W := by
  rw [drop_at s k hk, hc] at hR
  rw [WP.run, if_neg (by simp [hm]), if_neg hn34, if_pos hn92] at hR
  rw [drop_at s (k + 1) hk2, hc2, WP.run, if_neg (by simp [hr34, hr92])] at hR
  refine ⟨_, rfl, ?_⟩
  obtain ⟨u, rfl⟩ := fr_open a _ _ _ _ _ hF.hd hF.hs hF.h1 hF.h5 hF.h6 hF.h7 hF.h8
  clear hF
  obtain ⟨cl1, cl2, cl3⟩ := sw_cells hS
  unfold Fr
  have HS := Lib.hid hS
  have HR := Lib.hid hR
  have HJ := Lib.hid hJ
  clear hS hR hJ
  have HO := Lib.hid ho
  clear ho
  have HM := cm w s k true (by simp [hk])
  have HY := cy c true hm
  clear hm
  have hkk : k + 1 ≤ 256 := by omega
  have HT := Lib.hid (sw_step1 HS.out (by omega))
  obtain ⟨e1, e2, e3⟩ := sw_cells HT.out
  have HM2 := cm1 w s k true (by simp; omega)
  obtain ⟨r34a, r34b⟩ : ((c2.toNat : Int) == 34) = false ∧ ((c2.toNat : Int) != 34) = true := eq_no c2 34 hr34
  clear hr34
  obtain ⟨r92a, r92b⟩ : ((c2.toNat : Int) == 92) = false ∧ ((c2.toNat : Int) != 92) = true := eq_no c2 92 hr92
  clear hr92
  obtain ⟨q34a, q34b⟩ : ((c.toNat : Int) == 34) = false ∧ ((c.toNat : Int) != 34) = true := eq_no c 34 hn34
  clear hn34
  obtain ⟨q92a, q92b⟩ : ((c.toNat : Int) == 92) = true ∧ ((c.toNat : Int) != 92) = false := eq_yes c 92 hn92
  clear hn92
  go_wp2_with (first | (go_at_call 69; first | (refine (HM.out _ (by assumption) (by assumption)).mono ?_; rintro e w1 ⟨rfl, rfl⟩) | (refine (HM2.out _ (by first | assumption | (simp; done)) (by first | assumption | (simp; assumption))).mono ?_; rintro e w1 ⟨rfl, rfl⟩)) | (go_at_call 64; refine (HY.out _).mono ?_; rintro e w1 ⟨rfl, rfl⟩) | fail)
  go_quiet (fail)
  go_wp2_with fail
  go_ret3
  rw [← HR.out]
  exact post_err HT.out (k + 1) _ _
set_option maxRecDepth 100000 in
set_option maxHeartbeats 4000000 in
theorem p2_ego34 (s : ByteArray) (w : World) (hs : s.size ≤ 256) (R : WP.Res) (k : Nat) (J : Nat → Act → World → Prop) (hJ : Js J s w R (mu s .quo k)) (a : Act) (W : World) (lv wv : Value) (ws : List (List UInt8)) (wb : List UInt8) (hF : Frm w lv wv a) (hS : SW s w W k lv ws) (ho : OW w W wv wb) (hwl : wb.length ≤ k) (hws : ws.length < 16) (hR : WP.run .quo ws wb k (s.data.toList.drop k) = R) (hk : k < s.size) (c : UInt8) (hc : s[k] = c) (hm : WP.may c = true) (hn34 : c.toNat ≠ 34) (hn92 : c.toNat = 92) (hk2 : k + 1 < s.size) (c2 : UInt8) (hc2 : s[k + 1] = c2) (hr34 : c2.toNat = 34) :
    Pass 2 .quo s w R k J a W := by
  rw [drop_at s k hk, hc] at hR
  rw [WP.run, if_neg (by simp [hm]), if_neg hn34, if_pos hn92] at hR
  rw [drop_at s (k + 1) hk2, hc2, WP.run, if_pos (.inl hr34)] at hR
  refine ⟨_, rfl, ?_⟩
  obtain ⟨u, rfl⟩ := fr_open a _ _ _ _ _ hF.hd hF.hs hF.h1 hF.h5 hF.h6 hF.h7 hF.h8
  clear hF
  obtain ⟨cl1, cl2, cl3⟩ := sw_cells hS
  unfold Fr
  have HS := Lib.hid hS
  have HR := Lib.hid hR
  have HJ := Lib.hid hJ
  clear hS hR hJ
  have HO := Lib.hid ho
  clear ho
  have HM := cm w s k true (by simp [hk])
  have HY := cy c true hm
  clear hm
  have hkk : k + 1 ≤ 256 := by omega
  have hkk2 : k + 1 + 1 ≤ 256 := by omega
  have HMU := Lib.hid (show mu s .quo (k + 2) < mu s .quo k by simp only [mu, off]; omega)
  have HK2 := Lib.hid (show k + 1 + 1 ≤ s.size by omega)
  have HWL := Lib.hid hwl
  have HT := Lib.hid (sw_step1 HS.out (by omega))
  obtain ⟨e1, e2, e3⟩ := sw_cells HT.out
  have HM2 := cm1 w s k true (by simp; omega)
  have HZ : Hid (w.heap.size + 2 ≤ (W.setCell ⟨w.heap.size + 1, 0, none⟩ (.int .i64 ((k : Int) + 1))).heap.size) := Lib.hid (by have := blk_lt HT.out.ha; omega)
  have HW := Lib.hid (HT.out)
  obtain ⟨r34a, r34b⟩ : ((c2.toNat : Int) == 34) = true ∧ ((c2.toNat : Int) != 34) = false := eq_yes c2 34 hr34
  clear hr34
  obtain ⟨q34a, q34b⟩ : ((c.toNat : Int) == 34) = false ∧ ((c.toNat : Int) != 34) = true := eq_no c 34 hn34
  clear hn34
  obtain ⟨q92a, q92b⟩ : ((c.toNat : Int) == 92) = true ∧ ((c.toNat : Int) != 92) = false := eq_yes c 92 hn92
  clear hn92
  go_wp2_with (first | (at_builtin; refine print_append_num (w0 := _) (w.heap.size + 2) rfl (.tmp 143) (.tmp 147) 80 5 .u8 1 rfl Tryz.underlying80 info8 (by decide) (wv) (by8 wb) (c2.toNat : Int) rfl (by first | rfl | (rw [show ∀ (X : World) p v, (X.setCell p v).heap.size = X.heap.size from fun X p v => by simp]; rfl)) (by rw [by8_len]; exact ow_step HO.out _) (Below.refl _ _) (HZ.out) (by rw [by8_len]; first | omega | simp) ?_; intro v1 w1 hown hbel hg hat; have S1 := Lib.hid (sw_byte HW.out (ow_step HO.out _) hbel hg); have O1 := Lib.hid (ow_byte hown); clear hown hbel hg hat; obtain ⟨d1, d2, d3⟩ := sw_cells S1.out) | (go_at_call 69; first | (refine (HM.out _ (by assumption) (by assumption)).mono ?_; rintro e w1 ⟨rfl, rfl⟩) | (refine (HM2.out _ (by first | assumption | (simp; done)) (by first | assumption | (simp; assumption))).mono ?_; rintro e w1 ⟨rfl, rfl⟩)) | (go_at_call 64; refine (HY.out _).mono ?_; rintro e w1 ⟨rfl, rfl⟩) | fail)
  go_step3
  exact HJ.out.j2 (k + 2) _ _ (HMU.out) ⟨_, _, _, _, ⟨rfl, rfl, rfl, rfl, rfl, rfl, rfl⟩, sw_step1 S1.out HK2.out, fun _ => ⟨ow_step O1.out _, by have := HWL.out; simp; omega, hws⟩, HR.out⟩
set_option maxRecDepth 100000 in
set_option maxHeartbeats 4000000 in
theorem p2_ego92 (s : ByteArray) (w : World) (hs : s.size ≤ 256) (R : WP.Res) (k : Nat) (J : Nat → Act → World → Prop) (hJ : Js J s w R (mu s .quo k)) (a : Act) (W : World) (lv wv : Value) (ws : List (List UInt8)) (wb : List UInt8) (hF : Frm w lv wv a) (hS : SW s w W k lv ws) (ho : OW w W wv wb) (hwl : wb.length ≤ k) (hws : ws.length < 16) (hR : WP.run .quo ws wb k (s.data.toList.drop k) = R) (hk : k < s.size) (c : UInt8) (hc : s[k] = c) (hm : WP.may c = true) (hn34 : c.toNat ≠ 34) (hn92 : c.toNat = 92) (hk2 : k + 1 < s.size) (c2 : UInt8) (hc2 : s[k + 1] = c2) (hr34 : c2.toNat ≠ 34) (hr92 : c2.toNat = 92) :
    Pass 2 .quo s w R k J a W := by
  rw [drop_at s k hk, hc] at hR
  rw [WP.run, if_neg (by simp [hm]), if_neg hn34, if_pos hn92] at hR
  rw [drop_at s (k + 1) hk2, hc2, WP.run, if_pos (.inr hr92)] at hR
  refine ⟨_, rfl, ?_⟩
  obtain ⟨u, rfl⟩ := fr_open a _ _ _ _ _ hF.hd hF.hs hF.h1 hF.h5 hF.h6 hF.h7 hF.h8
  clear hF
  obtain ⟨cl1, cl2, cl3⟩ := sw_cells hS
  unfold Fr
  have HS := Lib.hid hS
  have HR := Lib.hid hR
  have HJ := Lib.hid hJ
  clear hS hR hJ
  have HO := Lib.hid ho
  clear ho
  have HM := cm w s k true (by simp [hk])
  have HY := cy c true hm
  clear hm
  have hkk : k + 1 ≤ 256 := by omega
  have hkk2 : k + 1 + 1 ≤ 256 := by omega
  have HMU := Lib.hid (show mu s .quo (k + 2) < mu s .quo k by simp only [mu, off]; omega)
  have HK2 := Lib.hid (show k + 1 + 1 ≤ s.size by omega)
  have HWL := Lib.hid hwl
  have HT := Lib.hid (sw_step1 HS.out (by omega))
  obtain ⟨e1, e2, e3⟩ := sw_cells HT.out
  have HM2 := cm1 w s k true (by simp; omega)
  have HZ : Hid (w.heap.size + 2 ≤ (W.setCell ⟨w.heap.size + 1, 0, none⟩ (.int .i64 ((k : Int) + 1))).heap.size) := Lib.hid (by have := blk_lt HT.out.ha; omega)
  have HW := Lib.hid (HT.out)
  obtain ⟨r34a, r34b⟩ : ((c2.toNat : Int) == 34) = false ∧ ((c2.toNat : Int) != 34) = true := eq_no c2 34 hr34
  clear hr34
  obtain ⟨r92a, r92b⟩ : ((c2.toNat : Int) == 92) = true ∧ ((c2.toNat : Int) != 92) = false := eq_yes c2 92 hr92
  clear hr92
  obtain ⟨q34a, q34b⟩ : ((c.toNat : Int) == 34) = false ∧ ((c.toNat : Int) != 34) = true := eq_no c 34 hn34
  clear hn34
  obtain ⟨q92a, q92b⟩ : ((c.toNat : Int) == 92) = true ∧ ((c.toNat : Int) != 92) = false := eq_yes c 92 hn92
  clear hn92
  go_wp2_with (first | (at_builtin; refine print_append_num (w0 := _) (w.heap.size + 2) rfl (.tmp 143) (.tmp 147) 80 5 .u8 1 rfl Tryz.underlying80 info8 (by decide) (wv) (by8 wb) (c2.toNat : Int) rfl (by first | rfl | (rw [show ∀ (X : World) p v, (X.setCell p v).heap.size = X.heap.size from fun X p v => by simp]; rfl)) (by rw [by8_len]; exact ow_step HO.out _) (Below.refl _ _) (HZ.out) (by rw [by8_len]; first | omega | simp) ?_; intro v1 w1 hown hbel hg hat; have S1 := Lib.hid (sw_byte HW.out (ow_step HO.out _) hbel hg); have O1 := Lib.hid (ow_byte hown); clear hown hbel hg hat; obtain ⟨d1, d2, d3⟩ := sw_cells S1.out) | (go_at_call 69; first | (refine (HM.out _ (by assumption) (by assumption)).mono ?_; rintro e w1 ⟨rfl, rfl⟩) | (refine (HM2.out _ (by first | assumption | (simp; done)) (by first | assumption | (simp; assumption))).mono ?_; rintro e w1 ⟨rfl, rfl⟩)) | (go_at_call 64; refine (HY.out _).mono ?_; rintro e w1 ⟨rfl, rfl⟩) | fail)
  go_step3
  exact HJ.out.j2 (k + 2) _ _ (HMU.out) ⟨_, _, _, _, ⟨rfl, rfl, rfl, rfl, rfl, rfl, rfl⟩, sw_step1 S1.out HK2.out, fun _ => ⟨ow_step O1.out _, by have := HWL.out; simp; omega, hws⟩, HR.out⟩
theorem byte_ex (s : ByteArray) (k : Nat) (h : k < s.size) : ∃ c, s[k]'h = c := ⟨_, rfl⟩
theorem pass_rest (s : ByteArray) (w : World) (hs : s.size ≤ 256) (R : WP.Res) (k : Nat) (J : Nat → Act → World → Prop) (hJ : Js J s w R (mu s .rest k)) (a : Act) (W : World) (h : St .rest s w R k a W) : Pass 1 .rest s w R k J a W := by
  obtain ⟨lv, wv, ws, wb, hF, hS, _, hR⟩ := h.ex
  by_cases hk : k < s.size
  · obtain ⟨c, hc⟩ := byte_ex s k hk
    cases hm : WP.may c
    · exact p1_bad s w hs R k J hJ a W lv wv ws wb hF hS hR hk c hc hm
    · exact p1_go s w hs R k J hJ a W lv wv ws wb hF hS hR hk c hc hm
  · exact p1_end s w hs R k J hJ a W lv wv ws wb hF hS hR (by omega)
theorem pass_btw (s : ByteArray) (w : World) (hs : s.size ≤ 256) (R : WP.Res) (k : Nat) (J : Nat → Act → World → Prop) (hJ : Js J s w R (mu s .btw k)) (a : Act) (W : World) (h : St .btw s w R k a W) : Pass 0 .btw s w R k J a W := by
  obtain ⟨lv, wv, ws, wb, hF, hS, _, hR⟩ := h.ex
  by_cases hk : k < s.size
  · obtain ⟨c, hc⟩ := byte_ex s k hk
    cases hb : WP.blk c
    · by_cases h35 : c.toNat = 35
      · exact p0_sharp s w hs R k J hJ a W lv wv ws wb hF hS hR hk c hc hb (by simp [WP.may, h35]) h35
      · cases hm : WP.may c
        · exact p0_bad s w hs R k J hJ a W lv wv ws wb hF hS hR hk c hc hb hm h35
        · by_cases hl : ws.length = 16
          · exact p0_many s w hs R k J hJ a W lv wv ws wb hF hS hR hk c hc hb hm h35 hl
          · have hl2 : ws.length < 16 := by have := hS.len; omega
            by_cases h34 : c.toNat = 34
            · exact p0_quo s w hs R k J hJ a W lv wv ws wb hF hS hR hk c hc hb hm h35 h34 hl2
            · by_cases h92 : c.toNat = 92
              · exact p0_stroke s w hs R k J hJ a W lv wv ws wb hF hS hR hk c hc hb hm h35 h34 h92 hl2
              · exact p0_pla s w hs R k J hJ a W lv wv ws wb hF hS hR hk c hc hb hm h35 h34 h92 hl2
    · exact p0_blk s w hs R k J hJ a W lv wv ws wb hF hS hR hk c hc hb
  · exact p0_end s w hs R k J hJ a W lv wv ws wb hF hS hR (by omega)
theorem pass_pla (s : ByteArray) (w : World) (hs : s.size ≤ 256) (R : WP.Res) (k : Nat) (J : Nat → Act → World → Prop) (hJ : Js J s w R (mu s .pla k)) (a : Act) (W : World) (h : St .pla s w R k a W) : Pass 3 .pla s w R k J a W := by
  obtain ⟨lv, wv, ws, wb, hF, hS, hO, hR⟩ := h.ex
  obtain ⟨ho, hwl, hws⟩ := hO (.inl rfl)
  by_cases hk : k < s.size
  · obtain ⟨c, hc⟩ := byte_ex s k hk
    cases hb : WP.blk c
    · cases hm : WP.may c
      · exact p3_bad s w hs R k J hJ a W lv wv ws wb hF hS ho hwl hws hR hk c hc hb hm
      · by_cases h34 : c.toNat = 34
        · exact p3_bad34 s w hs R k J hJ a W lv wv ws wb hF hS ho hwl hws hR hk c hc hb hm h34
        · by_cases h92 : c.toNat = 92
          · exact p3_bad92 s w hs R k J hJ a W lv wv ws wb hF hS ho hwl hws hR hk c hc hb hm h34 h92
          · exact p3_go s w hs R k J hJ a W lv wv ws wb hF hS ho hwl hws hR hk c hc hb hm h34 h92
    · exact p3_blk s w hs R k J hJ a W lv wv ws wb hF hS ho hwl hws hR hk c hc hb
  · exact p3_end s w hs R k J hJ a W lv wv ws wb hF hS ho hwl hws hR (by omega)
theorem pass_quo (s : ByteArray) (w : World) (hs : s.size ≤ 256) (R : WP.Res) (k : Nat) (J : Nat → Act → World → Prop) (hJ : Js J s w R (mu s .quo k)) (a : Act) (W : World) (h : St .quo s w R k a W) : Pass 2 .quo s w R k J a W := by
  obtain ⟨lv, wv, ws, wb, hF, hS, hO, hR⟩ := h.ex
  obtain ⟨ho, hwl, hws⟩ := hO (.inr rfl)
  by_cases hk : k < s.size
  · obtain ⟨c, hc⟩ := byte_ex s k hk
    cases hm : WP.may c
    · exact p2_bad s w hs R k J hJ a W lv wv ws wb hF hS ho hwl hws hR hk c hc hm
    · by_cases h34 : c.toNat = 34
      · by_cases hk2 : k + 1 < s.size
        · obtain ⟨c2, hc2⟩ := byte_ex s (k + 1) hk2
          cases hb : WP.blk c2
          · exact p2_qbad s w hs R k J hJ a W lv wv ws wb hF hS ho hwl hws hR hk c hc hm h34 hk2 c2 hc2 hb
          · exact p2_qblk s w hs R k J hJ a W lv wv ws wb hF hS ho hwl hws hR hk c hc hm h34 hk2 c2 hc2 hb
        · exact p2_qend s w hs R k J hJ a W lv wv ws wb hF hS ho hwl hws hR hk c hc hm h34 (by omega)
      · by_cases h92 : c.toNat = 92
        · by_cases hk2 : k + 1 < s.size
          · obtain ⟨c2, hc2⟩ := byte_ex s (k + 1) hk2
            by_cases r34 : c2.toNat = 34
            · exact p2_ego34 s w hs R k J hJ a W lv wv ws wb hF hS ho hwl hws hR hk c hc hm h34 h92 hk2 c2 hc2 r34
            · by_cases r92 : c2.toNat = 92
              · exact p2_ego92 s w hs R k J hJ a W lv wv ws wb hF hS ho hwl hws hR hk c hc hm h34 h92 hk2 c2 hc2 r34 r92
              · exact p2_ebad s w hs R k J hJ a W lv wv ws wb hF hS ho hwl hws hR hk c hc hm h34 h92 hk2 c2 hc2 r34 r92
          · exact p2_eend s w hs R k J hJ a W lv wv ws wb hF hS ho hwl hws hR hk c hc hm h34 h92 (by omega)
        · exact p2_go s w hs R k J hJ a W lv wv ws wb hF hS ho hwl hws hR hk c hc hm h34 h92
  · exact p2_end s w hs R k J hJ a W lv wv ws wb hF hS ho hwl hws hR (by omega)
def JJ (s : ByteArray) (w : World) (R : WP.Res) (n : Nat) (l : Nat) (a : Act) (W : World) : Prop :=
  ∃ m k, ((m = .btw ∧ l = 0) ∨ (m = .rest ∧ l = 1) ∨ (m = .quo ∧ l = 2) ∨ (m = .pla ∧ l = 3)) ∧ mu s m k < n ∧ St m s w R k a W
def posOf (w W : World) : Nat := match W.cell? ⟨w.heap.size + 1, 0, none⟩ with | some (.int _ k) => k.toNat | _ => 0
def lm (l : Nat) : WP.Mode := if l = 0 then .btw else if l = 1 then .rest else if l = 2 then .quo else .pla
theorem pos_is {m : WP.Mode} {s : ByteArray} {w : World} {R : WP.Res} {k : Nat} {a : Act} {W : World} (h : St m s w R k a W) : posOf w W = k := by
  obtain ⟨lv, wv, ws, wb, hF, hS, _, _⟩ := h.ex
  obtain ⟨_, c2, _⟩ := sw_cells hS
  unfold posOf
  rw [c2]
  simp
theorem js_of (s : ByteArray) (w : World) (R : WP.Res) (n : Nat) : Js (JJ s w R n) s w R n :=
  ⟨fun k a W h hs => ⟨.btw, k, .inl ⟨rfl, rfl⟩, h, hs⟩, fun k a W h hs => ⟨.rest, k, .inr (.inl ⟨rfl, rfl⟩), h, hs⟩, fun k a W h hs => ⟨.quo, k, .inr (.inr (.inl ⟨rfl, rfl⟩)), h, hs⟩, fun k a W h hs => ⟨.pla, k, .inr (.inr (.inr ⟨rfl, rfl⟩)), h, hs⟩⟩
theorem wp_skip_seq {c : Code} {Q : Exit → Act → World → Prop} {a : Act} {W : World} (h : c.wp Tryz.prog Q a W) : (Code.seq .skip c).wp Tryz.prog Q a W := wp_seq (wp_skip h)
theorem wp_jumps_mono {c : Code} {J J' : Nat → Act → World → Prop} {Q : Exit → Act → World → Prop} {a : Act} {W : World} (hJ : ∀ l a W, J l a W → J' l a W) (h : c.wp Tryz.prog (jumps J Q) a W) : c.wp Tryz.prog (jumps J' Q) a W := by
  refine wp_mono h fun e a' w' h' => ?_
  cases e
  case goto l => exact hJ _ _ _ h'
  all_goals exact h'
theorem sw_start (s : ByteArray) (w : World) : SW s w ((w.alloc (.cells #[.string s] 9)).alloc (.cells #[.int .i64 0] 3)) 0 (.slice none 0 0) [] :=
  ⟨(Below.heap_alloc _ _ _ (by simp)).trans (heap_alloc_new w _), by have := heap_alloc_new (w.alloc (.cells #[.string s] 9)) (.cells #[.int .i64 0] 3); simpa using this, Nat.zero_le _, own_nil _ _ _ _, below_alloc (below_alloc (Below.refl _ _) _) _, by simp⟩
set_option maxRecDepth 100000 in
set_option maxHeartbeats 4000000 in
theorem split_small (s : ByteArray) (w : World) (hs : s.size ≤ 256) :
    Calls Tryz.prog 44 #[.string s] w (Post w (WP.split s.data.toList)) := by
  have hR : WP.split s.data.toList = WP.run .btw [] [] 0 s.data.toList := by
    unfold WP.split
    rw [if_neg (by simpa using hs)]
  rw [hR]
  generalize hRR : WP.run .btw [] [] 0 s.data.toList = R
  have HRR := Lib.hid hRR
  clear hR hRR
  have hq : ¬ (256 : Int) < (s.size : Int) := by omega
  have hmf : ∀ (fn : Fn) (first cap : Array Value) (w : World), (Instr.makeFunc fn first cap).run Tryz.prog w = .ok (.func fn first cap) w := fun _ _ _ _ => rfl
  have HB : ∀ l m k a W, ((m = WP.Mode.btw ∧ l = 0) ∨ (m = .rest ∧ l = 1) ∨ (m = .quo ∧ l = 2) ∨ (m = .pla ∧ l = 3)) → St m s w R k a W → Pass l m s w R k (JJ s w R (mu s m k)) a W := by
    intro l m k a W hl h
    rcases hl with ⟨rfl, rfl⟩ | ⟨rfl, rfl⟩ | ⟨rfl, rfl⟩ | ⟨rfl, rfl⟩
    · exact pass_btw s w hs R k _ (js_of s w R _) a W h
    · exact pass_rest s w hs R k _ (js_of s w R _) a W h
    · exact pass_quo s w hs R k _ (js_of s w R _) a W h
    · exact pass_pla s w hs R k _ (js_of s w R _) a W h
  have HBB := Lib.hid HB
  clear HB
  go_enter Tryz.func44, Tryz.ntmps44
  go_wp2_with fail
  refine wp_scope_labels (fun l a W => ∃ n, JJ s w R n l a W) (fun l a W => mu s (lm l) (posOf w W)) ?_ ?_
  · go_wp2_with fail
    go_step3
    rename_i K hK
    refine hK _ _ ?_
    refine (fun a W (h : St .btw s w R 0 a W) => (?_ : Code.wp _ _ _ a W)) _ _ ⟨.slice none 0 0, .slice none 0 0, [], [], ⟨rfl, rfl, rfl, rfl, rfl, rfl, rfl⟩, sw_start s w, by simp, HRR.out⟩
    obtain ⟨rest, h1, h2⟩ := HBB.out 0 .btw 0 a W (.inl ⟨rfl, rfl⟩) h
    obtain rfl := (Code.seq.inj (Option.some.inj (h1.symm.trans (rfl : findLabel sbody 0 = some (.seq .skip _))))).2
    exact wp_jumps_mono (fun l a W h => ⟨_, h⟩) h2
  · rintro l a W ⟨n, m, k, hl, hn, hst⟩
    obtain ⟨rest, h1, h2⟩ := HBB.out l m k a W hl hst
    refine ⟨_, h1, wp_skip_seq (wp_jumps_mono ?_ h2)⟩
    rintro l' a' W' ⟨m', k', hl', hn', hst'⟩
    refine ⟨⟨_, m', k', hl', hn', hst'⟩, ?_⟩
    have e1 := pos_is hst
    have e2 := pos_is hst'
    have e3 : lm l = m := by rcases hl with ⟨rfl, rfl⟩ | ⟨rfl, rfl⟩ | ⟨rfl, rfl⟩ | ⟨rfl, rfl⟩ <;> rfl
    have e4 : lm l' = m' := by rcases hl' with ⟨rfl, rfl⟩ | ⟨rfl, rfl⟩ | ⟨rfl, rfl⟩ | ⟨rfl, rfl⟩ <;> rfl
    rw [e1, e2, e3, e4]
    exact hn'
set_option maxRecDepth 100000 in
set_option maxHeartbeats 4000000 in
theorem split_big (s : ByteArray) (w : World) (hs : ¬ s.size ≤ 256) :
    Calls Tryz.prog 44 #[.string s] w (Post w (WP.split s.data.toList)) := by
  have hR : WP.split s.data.toList = ([], 256, 150) := by
    unfold WP.split
    rw [if_pos (by simp; omega)]
  rw [hR]
  clear hR
  have hq : (256 : Int) < (s.size : Int) := by omega
  have hmf : ∀ (fn : Fn) (first cap : Array Value) (w : World), (Instr.makeFunc fn first cap).run Tryz.prog w = .ok (.func fn first cap) w := fun _ _ _ _ => rfl
  go_enter Tryz.func44, Tryz.ntmps44
  go_wp2_with fail
  go_step3
  go_wp2_with fail
  go_ret3
  exact ⟨_, rfl, own_nil _ _ _ _, below_alloc (Below.refl _ _) _⟩
theorem split_any (s : ByteArray) (w : World) : Calls Tryz.prog 44 #[.string s] w (Post w (WP.split s.data.toList)) := by
  by_cases hs : s.size ≤ 256
  · exact split_small s w hs
  · exact split_big s w hs
def wordsSplit (s : ByteArray) : List ByteArray × Int × Int := ((WP.split s.data.toList).1.map ba, ((WP.split s.data.toList).2.1 : Nat), ((WP.split s.data.toList).2.2 : Nat))
def words_Split.f (a0 : ByteArray) : Option (List ByteArray × Int × Int) := some (wordsSplit a0)
theorem words_Split.calls (a0 : ByteArray) (r1 : List ByteArray) (r2 r3 : Int) (w : World) (h : words_Split.f a0 = some (r1, r2, r3)) :
    Calls Tryz.prog 44 #[.string a0] w fun e w' => ∃ v0_ : Value, e = .returned (.tuple #[v0_, .int .i64 r2, .int .i64 r3]) ∧ Kd.R Kd.string 9 w' w.heap.size (fun _ => True) v0_ r1 ∧ Below w.heap.size w w' := by
  have h' := Option.some.inj h
  unfold wordsSplit at h'
  obtain ⟨rfl, h2⟩ := Prod.mk.inj h'
  obtain ⟨rfl, rfl⟩ := Prod.mk.inj h2
  refine (split_any a0 w).mono ?_
  rintro e w' ⟨lv, rfl, ho, hb⟩
  refine ⟨lv, rfl, ⟨fun _ _ => trivial, strs _, by rw [List.length_map]; exact ho, ?_⟩, hb⟩
  exact reps_strs _ _ _ _
end Go.Proofs.YtlglbpjccpdloaaGreatDoor.Ext
set_option linter.unusedVariables false
set_option linter.unusedSimpArgs false
namespace Go.Proofs.YtlglbpjccpdloaaGreatDoor.Ext
open Go.RowKit Go.Proofs.YtlglbpjccpdloaaGreatDoorW.PrintWords Go.Proofs.YtlglbpjccpdloaaGreatDoorW.PrintLast
structure RT (W : World) (B : Nat) : Prop where
  ex : ∃ f34 f92 tr b, W.heap[B]? = some (.cells (cB f34 f92 tr) 163 (0, 0)) ∧ Byt W f34 92 34 ∧ Byt W f92 92 92 ∧ W.ownsRow b 9 1 tr 2 [Value.string ⟨#[34]⟩, Value.string ⟨#[92]⟩]
theorem rt_of {w W : World} (h : BSt w W 0) : RT W (w.heap.size + 1) := by
  obtain ⟨f34, f92, tr, xs, hc, ho, hb, _, _, q1, q0⟩ := h.ex
  obtain ⟨hf, ys, rfl, _, hy⟩ := q1 (by omega)
  obtain rfl := hy rfl
  exact ⟨f34, f92, tr, _, hc, hf, q0 rfl, ho⟩
theorem rt_below {W W' : World} {B : Nat} (h : RT W B) (hb : Below W.heap.size W W') : RT W' B := by
  obtain ⟨f34, f92, tr, b, hc, h1, h2, ho⟩ := h.ex
  exact ⟨f34, f92, tr, b, (hb.block _ (blk_lt hc)).trans hc, byt_below h1 hb, byt_below h2 hb, pw_own_below ho hb⟩
theorem rt_set {W : World} {B : Nat} (h : RT W B) {g : Nat} {cs : Array Value} (hg : W.heap[g]? = some (.cells cs 117 (0, 0))) (j : Nat) (u : Value) : RT (W.setCell ⟨g, j, none⟩ u) B := by
  obtain ⟨f34, f92, tr, b, hc, h1, h2, ho⟩ := h.ex
  exact ⟨f34, f92, tr, b, blk_far hc (blk_ne hc hg (by decide)) _, byt_set h1 hg (by decide) j u, byt_set h2 hg (by decide) j u, own_setCell ho (own_ne ho hg (by decide)) _⟩
theorem rt_cells {W : World} {B : Nat} (h : RT W B) : ∃ x34 c34 x92 c92 t ct, W.cell? ⟨B, 34, none⟩ = some (.slice (some ⟨x34, 0, none⟩) 2 c34) ∧ W.cell? ⟨B, 92, none⟩ = some (.slice (some ⟨x92, 0, none⟩) 2 c92) ∧
    W.cell? ⟨B, 256, none⟩ = some (.slice (some ⟨t, 0, none⟩) 2 ct) ∧ W.cell? ⟨t, 0, none⟩ = some (.string ⟨#[34]⟩) ∧ W.cell? ⟨t, 1, none⟩ = some (.string ⟨#[92]⟩) ∧
    W.cell? ⟨x34, 0, none⟩ = some (.int .u8 92) ∧ W.cell? ⟨x34, 1, none⟩ = some (.int .u8 34) ∧ W.cell? ⟨x92, 0, none⟩ = some (.int .u8 92) ∧ W.cell? ⟨x92, 1, none⟩ = some (.int .u8 92) ∧
    (∀ b, b < 256 → b ≠ 34 → b ≠ 92 → W.cell? ⟨B, b, none⟩ = some (.slice none 0 0)) := by
  obtain ⟨f34, f92, tr, b, hc, ⟨x34, c34, d34, fr34, rfl, p1, p2, p3⟩, ⟨x92, c92, d92, fr92, rfl, q1, q2, q3⟩, ho⟩ := h.ex
  rcases ho.2 with ⟨_, h0⟩ | ⟨t, ct, cur, rfl, _, ht, _⟩
  · cases h0
  have o0 := ho.cells (g := t) rfl 0 (.string ⟨#[34]⟩) rfl
  have o1 := ho.cells (g := t) rfl 1 (.string ⟨#[92]⟩) rfl
  rw [add_plain] at o0 o1
  exact ⟨x34, c34, x92, c92, t, ct, (blk_cell hc 34).trans (cB_34 _ _ _), (blk_cell hc 92).trans (cB_92 _ _ _), (blk_cell hc 256).trans (cB_256 _ _ _), o0, o1,
    (cell_of_row _ _ _ _ _ _ p1).trans p2, (cell_of_row _ _ _ _ _ _ p1).trans p3, (cell_of_row _ _ _ _ _ _ q1).trans q2, (cell_of_row _ _ _ _ _ _ q1).trans q3, fun b hb h1 h2 => (blk_cell hc b).trans (cB_at _ _ _ b hb h1 h2)⟩
theorem take_snoc_b (s : ByteArray) (k : Nat) (h : k < s.size) : s.data.toList.take (k + 1) = s.data.toList.take k ++ [s[k]] := by
  rw [List.take_succ_eq_append_getElem (by simpa using h)]; rfl
def vals (l : List UInt8) : List Value := l.map (fun c => .int .u8 (c.toNat : Int))
theorem es_take_le (l : List UInt8) (k : Nat) : (WP.es (l.take k)).length ≤ (WP.es l).length := by
  conv => rhs; rw [← List.take_append_drop k l, WP.es_append]
  rw [List.length_append]
  omega
theorem es_step (s : ByteArray) (k : Nat) (h : k < s.size) (c : UInt8) (hc : s[k]'h = c) : WP.es (s.data.toList.take (k + 1)) = WP.es (s.data.toList.take k) ++ (if WP.sp c = true then [92, c] else [c]) := by
  rw [take_snoc_b s k h, hc, WP.es_append, WP.es_one]
theorem take_all (s : ByteArray) : s.data.toList.take s.size = s.data.toList := List.take_of_length_le (by simp)
theorem ba_self (s : ByteArray) : (⟨s.data.toList.toArray⟩ : ByteArray) = s := by cases s; simp
theorem set_take (cur : List Value) (j : Nat) (v : Value) (h : j < cur.length) : (cur.set j v).take (j + 1) = cur.take j ++ [v] := by
  rw [List.take_succ_eq_append_getElem (by simpa using h), List.take_set_of_le (Nat.le_refl _)]
  simp
theorem splice_take (cur cs : List Value) (j : Nat) (h : j + cs.length ≤ cur.length) : (splice cur j cs).take (j + cs.length) = cur.take j ++ cs := by
  unfold splice
  rw [← List.append_assoc, List.take_append_of_le_length (by simp; omega)]
  exact List.take_of_length_le (by simp; omega)
theorem rp_info8 : (Tryz.prog.info? 5).map (fun i => (i.zero, i.size, i.bytes)) = some (some (.int .u8 0), 1, 1) := by kernel_rfl
theorem rp_size8 : (Tryz.prog.info? 5).map (·.size) = some 1 := by kernel_rfl
structure Buf (s : ByteArray) (W W2 : World) (m k j : Nat) : Prop where
  ex : ∃ cur : List Value, W2.heap[W.heap.size]? = some (.cells cur.toArray 5 (0, 0)) ∧ cur.length = m ∧ cur.take j = vals (WP.es (s.data.toList.take k))
  hj : j = (WP.es (s.data.toList.take k)).length
  bel : Below W.heap.size W W2
theorem buf_start (s : ByteArray) (W : World) (m : Nat) : Buf s W (W.alloc (.cells (madeCells #[.int .u8 0] m) 5)) m 0 0 :=
  ⟨⟨(madeCells #[.int .u8 0] m).toList, by rw [Array.toArray_toList]; exact heap_alloc_new W _, by simp [madeCells], rfl⟩, rfl, below_alloc (Below.refl _ _) _⟩
theorem buf_startN (s : ByteArray) (W : World) (m n : Nat) : Buf s W ((W.drewN n).alloc (.cells (madeCells #[.int .u8 0] m) 5)) m 0 0 :=
  ⟨⟨(madeCells #[.int .u8 0] m).toList, by rw [Array.toArray_toList]; exact heap_alloc_new (W.drewN n) _, by simp [madeCells], rfl⟩, rfl, below_alloc (pw_below_drewN (Below.refl _ _) n) _⟩
theorem buf_one {s : ByteArray} {W W2 : World} {m k j : Nat} (h : Buf s W W2 m k j) (hk : k < s.size) (c : UInt8) (hc : s[k]'hk = c) (hs : WP.sp c = false) (hm : (WP.es s.data.toList).length = m) :
    j < m ∧ (∃ v, W2.cell? ⟨W.heap.size, j, none⟩ = some v) ∧ W2.frozen? ⟨W.heap.size, j, none⟩ = false ∧ Buf s W (W2.setCell ⟨W.heap.size, j, none⟩ (.int .u8 (c.toNat : Int))) m (k + 1) (j + 1) := by
  obtain ⟨cur, hh, hl, ht⟩ := h.ex
  have he := es_step s k hk c hc
  rw [hs] at he
  simp only [Bool.false_eq_true, if_false] at he
  have hlt : j < m := by have := es_take_le s.data.toList (k + 1); rw [he, List.length_append, List.length_singleton] at this; have := h.hj; omega
  refine ⟨hlt, ⟨_, (blk_cell hh j).trans (by rw [List.getElem?_toArray, List.getElem?_eq_getElem (by omega)])⟩, blk_frozen hh j, ⟨⟨cur.set j (.int .u8 (c.toNat : Int)), ?_, by simpa using hl, ?_⟩, ?_, h.bel.setCell (Nat.le_refl _) _⟩⟩
  · have := blk_set hh j (.int .u8 (c.toNat : Int))
    rw [List.setIfInBounds_toArray] at this
    exact this
  · rw [set_take cur j _ (by omega), ht, he]
    simp [vals]
  · rw [he, h.hj]; simp
theorem buf_two {s : ByteArray} {W W2 : World} {m k j : Nat} (h : Buf s W W2 m k j) (hk : k < s.size) (c : UInt8) (hc : s[k]'hk = c) (hs : WP.sp c = true) (hm : (WP.es s.data.toList).length = m) :
    j + 2 ≤ m ∧ ∃ cur : List Value, W2.heap[W.heap.size]? = some (.cells cur.toArray 5 (0, 0)) ∧ cur.length = m ∧ ∀ w4, w4.heap[W.heap.size]? = some (.cells (splice cur j [.int .u8 92, .int .u8 (c.toNat : Int)]).toArray 5 (0, 0)) → Below W.heap.size W w4 → Buf s W w4 m (k + 1) (j + 2) := by
  obtain ⟨cur, hh, hl, ht⟩ := h.ex
  have he := es_step s k hk c hc
  rw [hs] at he
  simp only [if_true] at he
  have hlt : j + 2 ≤ m := by have := es_take_le s.data.toList (k + 1); rw [he, List.length_append] at this; simp only [List.length_cons, List.length_nil] at this; have := h.hj; omega
  refine ⟨hlt, cur, hh, hl, fun w4 h4 hb4 => ⟨⟨_, h4, by rw [length_splice _ _ _ (by simp; omega)]; exact hl, ?_⟩, ?_, hb4⟩⟩
  · rw [show j + 2 = j + [Value.int .u8 92, .int .u8 (c.toNat : Int)].length from rfl, splice_take _ _ _ (by simp; omega), ht, he]
    simp [vals]
  · rw [he, h.hj]; simp
theorem buf_end {s : ByteArray} {W W2 : World} {m j : Nat} (h : Buf s W W2 m s.size j) (hm : (WP.es s.data.toList).length = m) :
    (convert 80 9 (.slice (some ⟨W.heap.size, 0, none⟩) m m)).run Tryz.prog W2 = .ok (.string ⟨(WP.es s.data.toList).toArray⟩) W2 := by
  obtain ⟨cur, hh, hl, ht⟩ := h.ex
  have hj := h.hj
  rw [take_all] at ht hj
  have hcur : cur = vals (WP.es s.data.toList) := by rw [← ht]; exact (List.take_of_length_le (by omega)).symm
  subst hcur
  have := run_convert_bytes_arg (P := Tryz.prog) W2 80 5 Tryz.underlying80 Tryz.underlying5 W.heap.size 0 m m (by8 (WP.es s.data.toList)) (by rw [by8_len]; exact hm) (fun i hi => by
    rw [Nat.zero_add, blk_cell hh i, List.getElem?_toArray]
    simp only [vals, by8, List.getElem?_map, List.getD_eq_getElem?_getD]
    rw [List.getElem?_eq_getElem (by omega)]
    simp) 9 Tryz.underlying9
  rw [str_ba] at this
  exact this
set_option maxRecDepth 100000 in
set_option maxHeartbeats 8000000 in
theorem rep_small (W : World) (B : Nat) (hT : RT W B) (s : ByteArray) (hs : s.size ≤ 2000) (h16 : ¬ 16 ≤ s.size) :
    Calls Tryz.prog 184 #[.pointer (some ⟨B, 0, none⟩), .string s] W fun e w' => e = .returned (.string ⟨(WP.es s.data.toList).toArray⟩) ∧ Below W.heap.size W w' := by
  obtain ⟨x34, c34, x92, c92, t, ct, k34, k92, k256, kt0, kt1, k1, k2, k3, k4, kn⟩ := rt_cells hT
  have hBW : B < W.heap.size := World.block_lt_of_cell? _ _ k34
  have hX34 : x34 < W.heap.size := World.block_lt_of_cell? _ _ k1
  have hX92 : x92 < W.heap.size := World.block_lt_of_cell? _ _ k3
  have qN : ∀ (w : World) (a : Option Addr) (n c n' c' : Nat), (binOp .neq 80 (.slice a n c) (.slice none n' c')).run Tryz.prog w = .ok (.bool (!a.isNone)) w := fun w a n c n' c' => run_neq_slice_nil_any w _ _ a n c n' c' Tryz.underlying80
  have HN := Lib.hid kn
  clear kn hT
  have hd : decide (16 ≤ (s.size : Int)) = false := by simp; omega
  go_enter Tryz.func184, Tryz.ntmps184
  go_wp2_with fail
  go_loopg [5, 6, 10] s.size (fun g v5 v6 v10 W2 => W = W2 ∧ ∃ k m : Nat, g = s.size - k ∧ k ≤ s.size ∧ v10 = .int .i64 k ∧ v5 = .int .i64 m ∧ v6 = .bool (decide (0 < WP.cn (s.data.toList.take k))) ∧ m = s.size + WP.cn (s.data.toList.take k))
  case atStart => exact ⟨rfl, 0, s.size, by omega, by omega, rfl, rfl, rfl, by simp [WP.cn]⟩
  case round =>
    obtain ⟨rfl, k, m, hg, hk, rfl, rfl, rfl, hm⟩ := hrel
    have HG := Lib.hid hg
    have HM := Lib.hid hm
    have hm40 : m ≤ 4000 := by have := WP.cn_le (s.data.toList.take k); rw [List.length_take] at this; omega
    clear hg hm
    by_cases hk2 : k < s.size
    · obtain ⟨c, hc⟩ : ∃ c, s[k]'hk2 = c := ⟨_, rfl⟩
      have hts := take_snoc_b s k hk2
      rw [hc] at hts
      have hcn : WP.cn (s.data.toList.take (k + 1)) = WP.cn (s.data.toList.take k) + (if WP.sp c = true then 1 else 0) := by rw [hts, WP.cn_snoc]
      have hc256 : c.toNat < 256 := c.toNat_lt
      cases hs : WP.sp c
      · obtain ⟨n34, n92⟩ : c.toNat ≠ 34 ∧ c.toNat ≠ 92 := by simpa [WP.sp] using hs
        have dn := HN.out _ hc256 n34 n92
        rw [hs] at hcn
        have HCN := Lib.hid hcn
        clear hs n34 n92 hcn hts
        go_wp2_with fail
        go_roundg (s.size - (k + 1))
        case measure => have := HG.out; omega
        case rel => exact ⟨rfl, k + 1, m, rfl, by omega, rfl, rfl, by rw [HCN.out]; rfl, by rw [HCN.out]; exact HM.out⟩
      · have hcc : c.toNat = 34 ∨ c.toNat = 92 := (WP.sp_iff c).1 hs
        rw [hs] at hcn
        have HCN := Lib.hid hcn
        clear hs hcn hts
        rcases hcc with h34 | h92
        · have kx : W.cell? ⟨B, c.toNat, none⟩ = some (.slice (some ⟨x34, 0, none⟩) 2 c34) := by rw [h34]; exact k34
          clear h34
          go_wp2_with fail
          go_roundg (s.size - (k + 1))
          case measure => have := HG.out; omega
          case rel => exact ⟨rfl, k + 1, m + 1, rfl, by omega, rfl, rfl, by rw [HCN.out]; simp, by rw [HCN.out, HM.out]; rfl⟩
        · have kx : W.cell? ⟨B, c.toNat, none⟩ = some (.slice (some ⟨x92, 0, none⟩) 2 c92) := by rw [h92]; exact k92
          clear h92
          go_wp2_with fail
          go_roundg (s.size - (k + 1))
          case measure => have := HG.out; omega
          case rel => exact ⟨rfl, k + 1, m + 1, rfl, by omega, rfl, rfl, by rw [HCN.out]; simp, by rw [HCN.out, HM.out]; rfl⟩
    · have hkE : k = s.size := by omega
      subst hkE
      have hm := HM.out
      rw [take_all] at hm
      have hml : (WP.es s.data.toList).length = m := by rw [WP.es_len, hm]; try simp
      have HML := Lib.hid hml
      clear hml
      by_cases hz : WP.cn s.data.toList = 0
      · have hdz : decide (0 < WP.cn (List.take s.size s.data.toList)) = false := by rw [take_all, hz]; rfl
        have hsame : (⟨(WP.es s.data.toList).toArray⟩ : ByteArray) = s := by rw [WP.es_none _ hz]
        have HSAME := Lib.hid hsame
        clear hsame hz hm
        go_wp2_with fail
        go_ret
        have hfin : Ending.returned (.string s) = Ending.returned (.string ⟨(WP.es s.data.toList).toArray⟩) := by rw [HSAME.out]
        exact ⟨hfin, Below.refl _ _⟩
      · have hdz : decide (0 < WP.cn (List.take s.size s.data.toList)) = true := by rw [take_all]; first | (simp; done) | (simp; omega)
        have hmk := print_make (P := Tryz.prog) 80 5 .u8 1 Tryz.underlying80 rp_info8 (by decide) m (by omega)
        clear hz hm
        go_wp2_with fail
        clear hmk hdz
        go_loopg [13, 14] s.size (fun g v13 v14 W2 => ∃ k j : Nat, g = s.size - k ∧ k ≤ s.size ∧ v14 = .int .i64 k ∧ v13 = .int .i64 j ∧ Buf s W W2 m k j)
        case atStart => exact ⟨0, 0, by omega, by omega, rfl, rfl, buf_start s W m⟩
        case round =>
          obtain ⟨k, j, hg, hk, rfl, rfl, hB⟩ := hrel
          have HG := Lib.hid hg
          have hbl := hB.bel
          have d34 := (hbl.cell (p := ⟨B, 34, none⟩) hBW).trans k34
          have d92 := (hbl.cell (p := ⟨B, 92, none⟩) hBW).trans k92
          have d1 := (hbl.cell (p := ⟨x34, 0, none⟩) hX34).trans k1
          have d2 := (hbl.cell (p := ⟨x34, 1, none⟩) hX34).trans k2
          have d3 := (hbl.cell (p := ⟨x92, 0, none⟩) hX92).trans k3
          have d4 := (hbl.cell (p := ⟨x92, 1, none⟩) hX92).trans k4
          have hj40 : j ≤ 4000 := by have := es_take_le s.data.toList k; have := hB.hj; have := HML.out; omega
          have HBL := Lib.hid hbl
          have HB := Lib.hid hB
          clear hg hbl hB
          by_cases hk2 : k < s.size
          · obtain ⟨c, hc⟩ : ∃ c, s[k]'hk2 = c := ⟨_, rfl⟩
            have hc256 : c.toNat < 256 := c.toNat_lt
            cases hs : WP.sp c
            · obtain ⟨n34, n92⟩ : c.toNat ≠ 34 ∧ c.toNat ≠ 92 := by simpa [WP.sp] using hs
              have dn := (HBL.out.cell (p := ⟨B, c.toNat, none⟩) hBW).trans (HN.out _ hc256 n34 n92)
              obtain ⟨hjm, ⟨v, e1⟩, e2, hnext⟩ := buf_one HB.out hk2 c hc hs HML.out
              have HX := Lib.hid hnext
              clear hs n34 n92 hnext
              go_wp2_with fail
              go_roundg (s.size - (k + 1))
              case measure => have := HG.out; omega
              case rel => exact ⟨k + 1, j + 1, rfl, by omega, rfl, rfl, HX.out⟩
            · have hcc : c.toNat = 34 ∨ c.toNat = 92 := (WP.sp_iff c).1 hs
              obtain ⟨hjm, cur, hcur, hcl, hnext⟩ := buf_two HB.out hk2 c hc hs HML.out
              have HX := Lib.hid hnext
              have HCU := Lib.hid hcur
              have HCL := Lib.hid hcl
              clear hs hnext hcur hcl
              have hj1 : j ≤ m := by omega
              have hj2 : ¬ m = j := by omega
              have hci : (c.toNat : Int) < 256 := by omega
              rcases hcc with h34 | h92
              · have kx : wr.cell? ⟨B, c.toNat, none⟩ = some (.slice (some ⟨x34, 0, none⟩) 2 c34) := by rw [h34]; exact d34
                have HE := Lib.hid h34
                clear h34
                go_wp2_with fail
                go_region_law (refine step_copy_splice rfl (.tmp 105) (.tmp 111) 80 80 rfl 5 Tryz.underlying80 rp_size8 (some ⟨W.heap.size, j, none⟩) (some ⟨x34, 0, none⟩) (m - j) (m - j) 2 c34 rfl rfl W.heap.size j cur 5 HCU.out [.int .u8 92, .int .u8 34] (by show 2 = Nat.min 2 (m - j); simp only [Nat.min_def]; split <;> omega) (fun _ => ⟨rfl, _, rfl, fun i v hi => by match i, hi with | 0, hi => cases hi; rw [add_plain]; exact d1 | 1, hi => cases hi; rw [add_plain]; exact d2⟩) (by simp; have := HCL.out; omega) (by simp [Value.oneCell']) W.heap.size W HBL.out.drew (Nat.le_refl _) ?_; intro w4 hg4 hb4)
                go_wp2_with fail
                go_roundg (s.size - (k + 1))
                case measure => have := HG.out; omega
                case rel => exact ⟨k + 1, j + 2, rfl, by omega, rfl, rfl, HX.out _ (by rw [HE.out]; exact hg4.out) hb4⟩
              · have kx : wr.cell? ⟨B, c.toNat, none⟩ = some (.slice (some ⟨x92, 0, none⟩) 2 c92) := by rw [h92]; exact d92
                have HE := Lib.hid h92
                clear h92
                go_wp2_with fail
                go_region_law (refine step_copy_splice rfl (.tmp 105) (.tmp 111) 80 80 rfl 5 Tryz.underlying80 rp_size8 (some ⟨W.heap.size, j, none⟩) (some ⟨x92, 0, none⟩) (m - j) (m - j) 2 c92 rfl rfl W.heap.size j cur 5 HCU.out [.int .u8 92, .int .u8 92] (by show 2 = Nat.min 2 (m - j); simp only [Nat.min_def]; split <;> omega) (fun _ => ⟨rfl, _, rfl, fun i v hi => by match i, hi with | 0, hi => cases hi; rw [add_plain]; exact d3 | 1, hi => cases hi; rw [add_plain]; exact d4⟩) (by simp; have := HCL.out; omega) (by simp [Value.oneCell']) W.heap.size W HBL.out.drew (Nat.le_refl _) ?_; intro w4 hg4 hb4)
                go_wp2_with fail
                go_roundg (s.size - (k + 1))
                case measure => have := HG.out; omega
                case rel => exact ⟨k + 1, j + 2, rfl, by omega, rfl, rfl, HX.out _ (by rw [HE.out]; exact hg4.out) hb4⟩
          · obtain rfl : k = s.size := by omega
            have hcv := buf_end HB.out HML.out
            go_wp2_with fail
            go_ret
            exact ⟨rfl, HBL.out⟩
theorem count_cn (s : ByteArray) : WP.cn (s.data.toList.take s.size) = Lib.countByte s.data.toList 34 + Lib.countByte s.data.toList 92 := by
  rw [take_all, WP.cn_count]
  rfl
theorem count_le (s : ByteArray) (c : UInt8) : Lib.countByte s.data.toList c ≤ s.size := by
  have h : s.data.toList.count c ≤ s.data.toList.length := List.count_le_length
  exact h
set_option maxRecDepth 100000 in
set_option maxHeartbeats 8000000 in
theorem rep_big (W : World) (B : Nat) (hT : RT W B) (s : ByteArray) (hs : s.size ≤ 2000) (h16 : 16 ≤ s.size) :
    Calls Tryz.prog 184 #[.pointer (some ⟨B, 0, none⟩), .string s] W fun e w' => e = .returned (.string ⟨(WP.es s.data.toList).toArray⟩) ∧ Below W.heap.size W w' := by
  obtain ⟨x34, c34, x92, c92, t, ct, k34, k92, k256, kt0, kt1, k1, k2, k3, k4, kn⟩ := rt_cells hT
  have hBW : B < W.heap.size := World.block_lt_of_cell? _ _ k34
  have hX34 : x34 < W.heap.size := World.block_lt_of_cell? _ _ k1
  have hX92 : x92 < W.heap.size := World.block_lt_of_cell? _ _ k3
  have qN : ∀ (w : World) (a : Option Addr) (n c n' c' : Nat), (binOp .neq 80 (.slice a n c) (.slice none n' c')).run Tryz.prog w = .ok (.bool (!a.isNone)) w := fun w a n c n' c' => run_neq_slice_nil_any w _ _ a n c n' c' Tryz.underlying80
  have HN := Lib.hid kn
  clear kn hT
  have hix : ∀ h, ((⟨#[34]⟩ : ByteArray)[0]'h).toNat = 34 := fun _ => rfl
  have hiy : ∀ h, ((⟨#[92]⟩ : ByteArray)[0]'h).toNat = 92 := fun _ => rfl
  have hd : decide (16 ≤ (s.size : Int)) = true := by simp; omega
  have C34 := fun w => (Tryz.strings_Count_one s 34 w).mono (fun e w' (h : _ ∧ w' = w) => And.intro h.1 h.2.symm)
  have C92 := fun w => (Tryz.strings_Count_one s 92 w).mono (fun e w' (h : _ ∧ w' = w) => And.intro h.1 h.2.symm)
  have hcc := count_cn s
  have hl34 := count_le s 34
  have hl92 := count_le s 92
  generalize Lib.countByte s.data.toList 34 = n34 at C34 hcc hl34
  generalize Lib.countByte s.data.toList 92 = n92 at C92 hcc hl92
  have HC34 := Lib.hid C34
  have HC92 := Lib.hid C92
  have HCC := Lib.hid hcc
  clear C34 C92 hcc
  go_enter Tryz.func184, Tryz.ntmps184
  go_wp2_with fail
  go_loopg [5, 6, 32] 2 (fun g v5 v6 v32 W2 => (∃ nd, W2 = W.drewN nd) ∧ ((g = 2 ∧ v32 = .int .i64 0 ∧ v5 = .int .i64 s.size ∧ v6 = .bool false) ∨ (g = 1 ∧ v32 = .int .i64 1 ∧ ∃ m : Nat, v5 = .int .i64 m ∧ m = s.size + n34 ∧ v6 = .bool (decide (0 < n34))) ∨
    (g = 0 ∧ v32 = .int .i64 2 ∧ ∃ m : Nat, v5 = .int .i64 m ∧ m = s.size + WP.cn (s.data.toList.take s.size) ∧ v6 = .bool (decide (0 < WP.cn (s.data.toList.take s.size))))))
  case atStart => exact ⟨⟨0, rfl⟩, .inl ⟨rfl, rfl, rfl, rfl⟩⟩
  case round =>
    obtain ⟨⟨nd, rfl⟩, ⟨rfl, rfl, rfl, rfl⟩ | ⟨rfl, rfl, m, rfl, hm, rfl⟩ | ⟨rfl, rfl, m, rfl, hm, rfl⟩⟩ := hrel
    · by_cases hz : n34 = 0
      · subst hz
        go_wp2_with (go_at_call 111; refine (HC34.out _).mono ?_; rintro e w1 ⟨rfl, rfl⟩)
        go_roundg 1
        case measure => omega
        case rel => exact ⟨⟨nd, rfl⟩, .inr (.inl ⟨rfl, rfl, s.size, rfl, rfl, rfl⟩)⟩
      · have hz1 : ((n34 : Int) != 0) = true := by simp; omega
        clear hz
        go_wp2_with (go_at_call 111; refine (HC34.out _).mono ?_; rintro e w1 ⟨rfl, rfl⟩)
        go_quiet (fail)
        go_wp2_with fail
        go_roundg 1
        case measure => omega
        case rel => exact ⟨⟨nd + nq, rfl⟩, .inr (.inl ⟨rfl, rfl, s.size + n34, rfl, rfl, by congr 1; symm; simp; have := hz1; simp at this; omega⟩)⟩
    · have HM0 := Lib.hid hm
      have hm40 : m ≤ 4000 := by omega
      clear hm
      by_cases hz : n92 = 0
      · subst hz
        go_wp2_with (go_at_call 111; refine (HC92.out _).mono ?_; rintro e w1 ⟨rfl, rfl⟩)
        go_roundg 0
        case measure => omega
        case rel => exact ⟨⟨nd, rfl⟩, .inr (.inr ⟨rfl, rfl, m, rfl, by rw [HCC.out]; exact HM0.out, by rw [HCC.out]; rfl⟩)⟩
      · have hz1 : ((n92 : Int) != 0) = true := by simp; omega
        clear hz
        go_wp2_with (go_at_call 111; refine (HC92.out _).mono ?_; rintro e w1 ⟨rfl, rfl⟩)
        go_quiet (fail)
        go_wp2_with fail
        go_roundg 0
        case measure => omega
        case rel => exact ⟨⟨nd + nq, rfl⟩, .inr (.inr ⟨rfl, rfl, m + n92, rfl, by rw [HCC.out, HM0.out]; omega, by rw [HCC.out]; congr 1; symm; simp; have := hz1; simp at this; omega⟩)⟩
    · have HM := Lib.hid hm
      have hm40 : m ≤ 4000 := by have := WP.cn_le (s.data.toList.take s.size); rw [List.length_take] at this; omega
      clear hm
      have hm := HM.out
      rw [take_all] at hm
      have hml : (WP.es s.data.toList).length = m := by rw [WP.es_len, hm]; try simp
      have HML := Lib.hid hml
      clear hml
      by_cases hz : WP.cn s.data.toList = 0
      · have hdz : decide (0 < WP.cn (List.take s.size s.data.toList)) = false := by rw [take_all, hz]; rfl
        have hsame : (⟨(WP.es s.data.toList).toArray⟩ : ByteArray) = s := by rw [WP.es_none _ hz]
        have HSAME := Lib.hid hsame
        clear hsame hz hm
        go_wp2_with fail
        go_ret
        have hfin : Ending.returned (.string s) = Ending.returned (.string ⟨(WP.es s.data.toList).toArray⟩) := by rw [HSAME.out]
        exact ⟨hfin, pw_below_drewN (Below.refl _ _) nd⟩
      · have hdz : decide (0 < WP.cn (List.take s.size s.data.toList)) = true := by rw [take_all]; first | (simp; done) | (simp; omega)
        have hmk := print_make (P := Tryz.prog) 80 5 .u8 1 Tryz.underlying80 rp_info8 (by decide) m (by omega)
        clear hz hm
        go_wp2_with fail
        clear hmk hdz
        go_loopg [13, 14] s.size (fun g v13 v14 W2 => ∃ k j : Nat, g = s.size - k ∧ k ≤ s.size ∧ v14 = .int .i64 k ∧ v13 = .int .i64 j ∧ Buf s W W2 m k j)
        case atStart => exact ⟨0, 0, by omega, by omega, rfl, rfl, buf_startN s W m nd⟩
        case round =>
          obtain ⟨k, j, hg, hk, rfl, rfl, hB⟩ := hrel
          have HG := Lib.hid hg
          have hbl := hB.bel
          have d34 := (hbl.cell (p := ⟨B, 34, none⟩) hBW).trans k34
          have d92 := (hbl.cell (p := ⟨B, 92, none⟩) hBW).trans k92
          have d1 := (hbl.cell (p := ⟨x34, 0, none⟩) hX34).trans k1
          have d2 := (hbl.cell (p := ⟨x34, 1, none⟩) hX34).trans k2
          have d3 := (hbl.cell (p := ⟨x92, 0, none⟩) hX92).trans k3
          have d4 := (hbl.cell (p := ⟨x92, 1, none⟩) hX92).trans k4
          have hj40 : j ≤ 4000 := by have := es_take_le s.data.toList k; have := hB.hj; have := HML.out; omega
          have HBL := Lib.hid hbl
          have HB := Lib.hid hB
          clear hg hbl hB
          by_cases hk2 : k < s.size
          · obtain ⟨c, hc⟩ : ∃ c, s[k]'hk2 = c := ⟨_, rfl⟩
            have hc256 : c.toNat < 256 := c.toNat_lt
            cases hs : WP.sp c
            · obtain ⟨n34, n92⟩ : c.toNat ≠ 34 ∧ c.toNat ≠ 92 := by simpa [WP.sp] using hs
              have dn := (HBL.out.cell (p := ⟨B, c.toNat, none⟩) hBW).trans (HN.out _ hc256 n34 n92)
              obtain ⟨hjm, ⟨v, e1⟩, e2, hnext⟩ := buf_one HB.out hk2 c hc hs HML.out
              have HX := Lib.hid hnext
              clear hs n34 n92 hnext
              go_wp2_with fail
              go_roundg (s.size - (k + 1))
              case measure => have := HG.out; omega
              case rel => exact ⟨k + 1, j + 1, rfl, by omega, rfl, rfl, HX.out⟩
            · have hcc : c.toNat = 34 ∨ c.toNat = 92 := (WP.sp_iff c).1 hs
              obtain ⟨hjm, cur, hcur, hcl, hnext⟩ := buf_two HB.out hk2 c hc hs HML.out
              have HX := Lib.hid hnext
              have HCU := Lib.hid hcur
              have HCL := Lib.hid hcl
              clear hs hnext hcur hcl
              have hj1 : j ≤ m := by omega
              have hj2 : ¬ m = j := by omega
              have hci : (c.toNat : Int) < 256 := by omega
              rcases hcc with h34 | h92
              · have kx : wr.cell? ⟨B, c.toNat, none⟩ = some (.slice (some ⟨x34, 0, none⟩) 2 c34) := by rw [h34]; exact d34
                have HE := Lib.hid h34
                clear h34
                go_wp2_with fail
                go_region_law (refine step_copy_splice rfl (.tmp 105) (.tmp 111) 80 80 rfl 5 Tryz.underlying80 rp_size8 (some ⟨W.heap.size, j, none⟩) (some ⟨x34, 0, none⟩) (m - j) (m - j) 2 c34 rfl rfl W.heap.size j cur 5 HCU.out [.int .u8 92, .int .u8 34] (by show 2 = Nat.min 2 (m - j); simp only [Nat.min_def]; split <;> omega) (fun _ => ⟨rfl, _, rfl, fun i v hi => by match i, hi with | 0, hi => cases hi; rw [add_plain]; exact d1 | 1, hi => cases hi; rw [add_plain]; exact d2⟩) (by simp; have := HCL.out; omega) (by simp [Value.oneCell']) W.heap.size W HBL.out.drew (Nat.le_refl _) ?_; intro w4 hg4 hb4)
                go_wp2_with fail
                go_roundg (s.size - (k + 1))
                case measure => have := HG.out; omega
                case rel => exact ⟨k + 1, j + 2, rfl, by omega, rfl, rfl, HX.out _ (by rw [HE.out]; exact hg4.out) hb4⟩
              · have kx : wr.cell? ⟨B, c.toNat, none⟩ = some (.slice (some ⟨x92, 0, none⟩) 2 c92) := by rw [h92]; exact d92
                have HE := Lib.hid h92
                clear h92
                go_wp2_with fail
                go_region_law (refine step_copy_splice rfl (.tmp 105) (.tmp 111) 80 80 rfl 5 Tryz.underlying80 rp_size8 (some ⟨W.heap.size, j, none⟩) (some ⟨x92, 0, none⟩) (m - j) (m - j) 2 c92 rfl rfl W.heap.size j cur 5 HCU.out [.int .u8 92, .int .u8 92] (by show 2 = Nat.min 2 (m - j); simp only [Nat.min_def]; split <;> omega) (fun _ => ⟨rfl, _, rfl, fun i v hi => by match i, hi with | 0, hi => cases hi; rw [add_plain]; exact d3 | 1, hi => cases hi; rw [add_plain]; exact d4⟩) (by simp; have := HCL.out; omega) (by simp [Value.oneCell']) W.heap.size W HBL.out.drew (Nat.le_refl _) ?_; intro w4 hg4 hb4)
                go_wp2_with fail
                go_roundg (s.size - (k + 1))
                case measure => have := HG.out; omega
                case rel => exact ⟨k + 1, j + 2, rfl, by omega, rfl, rfl, HX.out _ (by rw [HE.out]; exact hg4.out) hb4⟩
          · obtain rfl : k = s.size := by omega
            have hcv := buf_end HB.out HML.out
            go_wp2_with fail
            go_ret
            exact ⟨rfl, HBL.out⟩
theorem rep_any (W : World) (B : Nat) (hT : RT W B) (s : ByteArray) (hs : s.size ≤ 2000) :
    Calls Tryz.prog 184 #[.pointer (some ⟨B, 0, none⟩), .string s] W fun e w' => e = .returned (.string ⟨(WP.es s.data.toList).toArray⟩) ∧ Below W.heap.size W w' := by
  by_cases h : 16 ≤ s.size
  · exact rep_big W B hT s hs h
  · exact rep_small W B hT s hs h
end Go.Proofs.YtlglbpjccpdloaaGreatDoor.Ext
set_option linter.unusedVariables false
set_option linter.unusedSimpArgs false
namespace Go.Proofs.YtlglbpjccpdloaaGreatDoor.Ext
open Go.RowKit Go.Proofs.YtlglbpjccpdloaaGreatDoorW.PrintWords Go.Proofs.YtlglbpjccpdloaaGreatDoorW.PrintLast
theorem on_load (a : Addr) (d : Int) (b : Bool) (hb : (d != 0) = b) (w : World) (hc : w.cell? a = some (.int .u32 d)) :
    Calls Tryz.prog 103 #[.pointer (some a)] w fun e w' => e = .returned (.bool b) ∧ w = w' := by
  have hl := run_call_load (P := Tryz.prog) Tryz.func120 (by kernel_rfl) (by kernel_rfl) (by kernel_rfl) .u32 (by kernel_rfl) hc
  go_enter Tryz.func103, Tryz.ntmps103
  go_wp2
  go_ret
  exact ⟨by first | rfl | (simp [hb]; done) | simp_all, rfl⟩
def Iv (n : Nat) : Value := .iface 164 (.pointer (some ⟨n, 0, none⟩))
def BO (W : World) (R : Nat) (e : Ending) (w' : World) : Prop :=
  e = .returned (.tuple #[]) ∧ ∃ wb, BSt W wb 0 ∧ w' = (wb.setCell ⟨R, 3, none⟩ (Iv (W.heap.size + 1))).setCell ⟨R, 4, none⟩ (.slice none 0 0)
theorem bst_bel {w W : World} {g : Nat} (h : BSt w W g) : Below w.heap.size w W := by
  obtain ⟨_, _, _, _, _, _, hb, _⟩ := h.ex
  exact hb
structure Four (W : World) (g : Nat) : Prop where
  h0 : W.cell? ⟨g, 0, none⟩ = some (.string ⟨#[92]⟩)
  h1 : W.cell? ⟨g, 1, none⟩ = some (.string ⟨#[92, 92]⟩)
  h2 : W.cell? ⟨g, 2, none⟩ = some (.string ⟨#[34]⟩)
  h3 : W.cell? ⟨g, 3, none⟩ = some (.string ⟨#[92, 34]⟩)
set_option maxRecDepth 100000 in
set_option maxHeartbeats 4000000 in
theorem on_build (W : World) (R g c : Nat) (x0 x1 x2 x3 : Value) (hR : W.heap[R]? = some (.cells #[x0, x1, x2, x3, .slice (some ⟨g, 0, none⟩) 4 c] 117 (0, 0))) (h : Four W g) :
    Calls Tryz.prog 90 #[.pointer (some ⟨R, 0, none⟩)] W (BO W R) := by
  have HC := Lib.hid (rp_build W R g c x0 x1 x2 x3 hR h.h0 h.h1 h.h2 h.h3)
  have HR := Lib.hid hR
  clear hR h
  go_enter Tryz.func90, Tryz.ntmps90
  go_wp2_with (go_at_call 105; refine HC.out.mono ?_; rintro e wb ⟨rfl, hB⟩; have HB := Lib.hid hB; have hRb := ((bst_bel hB).block R (blk_lt HR.out)).trans HR.out; have r3 := (blk_cell hRb 3).trans rfl; have r4 := (blk_cell hRb 4).trans rfl; have z3 := blk_frozen hRb 3; have z4 := blk_frozen hRb 4; clear hB hRb)
  go_end0
  exact ⟨rfl, _, HB.out, rfl⟩
def Done (W : World) (R : Nat) (e : Ending) (w' : World) : Prop :=
  e = .returned (.tuple #[]) ∧ ∃ wb, BSt (W.setCell ⟨R, 1, none⟩ (.int .i32 1)) wb 0 ∧ w' = ((((wb.setCell ⟨R, 3, none⟩ (Iv (W.heap.size + 1))).setCell ⟨R, 4, none⟩ (.slice none 0 0)).drew.setCell ⟨R, 0, none⟩ (.int .u32 1)).setCell ⟨R, 1, none⟩ (.int .i32 0))
theorem four_set {W : World} {g R : Nat} {cs : Array Value} (h : Four W g) (hR : W.heap[R]? = some (.cells cs 117 (0, 0))) (hne : g ≠ R) (j : Nat) (v : Value) : Four (W.setCell ⟨R, j, none⟩ v) g :=
  ⟨(World.cell?_setCell_other _ _ _ _ (by intro he; injection he with he; exact hne he.symm)).trans h.h0, (World.cell?_setCell_other _ _ _ _ (by intro he; injection he with he; exact hne he.symm)).trans h.h1,
   (World.cell?_setCell_other _ _ _ _ (by intro he; injection he with he; exact hne he.symm)).trans h.h2, (World.cell?_setCell_other _ _ _ _ (by intro he; injection he with he; exact hne he.symm)).trans h.h3⟩
set_option maxRecDepth 100000 in
set_option maxHeartbeats 4000000 in
theorem on_slow (W : World) (R g c : Nat) (hR : W.heap[R]? = some (.cells #[.int .u32 0, .int .i32 0, .int .u32 0, .nilIface, .slice (some ⟨g, 0, none⟩) 4 c] 117 (0, 0))) (h : Four W g) (hne : g ≠ R) :
    Calls Tryz.prog 104 #[.pointer (some ⟨R, 0, none⟩), .func (.func 90) #[.pointer (some ⟨R, 0, none⟩)] #[]] W (Done W R) := by
  have hR1 := blk_set hR 1 (.int .i32 1)
  have c0 := (blk_cell hR1 0).trans rfl
  have d1 := (blk_cell hR 1).trans rfl
  have z1 := blk_frozen hR 1
  have HL := Lib.hid (on_load ⟨R, 0, none⟩ 0 false rfl (W.setCell ⟨R, 1, none⟩ (.int .i32 1)) c0)
  have HK := Lib.hid (on_lock_free ⟨R, 1, none⟩ W d1 z1)
  have HB := Lib.hid (on_build (W.setCell ⟨R, 1, none⟩ (.int .i32 1)) R g c _ _ _ _ hR1 (four_set h hR hne 1 _))
  have HR := Lib.hid hR1
  have hnot : ∀ (x : Bool) (w : World), (Op.unary .not (.bool x)).run Tryz.prog w = .ok (.bool (!x)) w := fun _ _ => rfl
  clear hR hR1 h c0 d1 z1
  go_enter_defers Tryz.func104, Tryz.ntmps104
  go_wp2_with (first | (go_at_call 121; refine HK.out.mono ?_; rintro e w' ⟨rfl, rfl⟩) | (go_at_call 103; refine HL.out.mono ?_; rintro e w' ⟨rfl, rfl⟩) | (go_at_call 90; refine HB.out.mono ?_; rintro e w2 ⟨rfl, wb, hB, rfl⟩))
  have hb := ((bst_bel hB).block R (blk_lt HR.out)).trans HR.out
  have hb3 := blk_set hb 3 (Iv (W.heap.size + 1))
  have hb4 := blk_set hb3 4 (.slice none 0 0)
  refine leaves_cons (f := 123) (args := #[.pointer (some ⟨R, 0, none⟩), .bool true]) (by simp) (by simp [go_sem]) ?_
  refine (on_store_deferred ⟨R, 0, none⟩ (.int .u32 0) .returning _ ((blk_cell hb4 0).trans rfl) (blk_frozen hb4 0)).mono ?_
  rintro e u' w'' ⟨rfl, rfl, rfl⟩
  have hb5 := blk_set (w := ((wb.setCell ⟨R, 3, none⟩ (Iv (W.heap.size + 1))).setCell ⟨R, 4, none⟩ (.slice none 0 0)).drew) hb4 0 (.int .u32 1)
  refine leaves_cons (f := 122) (args := #[.pointer (some ⟨R, 1, none⟩)]) (by simp [settle]) (by simp [go_sem]) ?_
  refine (on_unlock_deferred ⟨R, 1, none⟩ _ _ ((blk_cell hb5 1).trans rfl) (blk_frozen hb5 1)).mono ?_
  rintro e u' w'' ⟨rfl, rfl, rfl⟩
  simp [Leaves, settle, results, Tryz.results104]
  exact ⟨rfl, wb, hB, rfl⟩
set_option maxRecDepth 100000 in
set_option maxHeartbeats 4000000 in
theorem on_do (W : World) (R g c : Nat) (hR : W.heap[R]? = some (.cells #[.int .u32 0, .int .i32 0, .int .u32 0, .nilIface, .slice (some ⟨g, 0, none⟩) 4 c] 117 (0, 0))) (h : Four W g) (hne : g ≠ R) :
    Calls Tryz.prog 89 #[.pointer (some ⟨R, 0, none⟩), .func (.func 90) #[.pointer (some ⟨R, 0, none⟩)] #[]] W (Done W R) := by
  have HL := Lib.hid (on_load ⟨R, 0, none⟩ 0 false rfl W ((blk_cell hR 0).trans rfl))
  have HS := Lib.hid (on_slow W R g c hR h hne)
  have hnot : ∀ (x : Bool) (w : World), (Op.unary .not (.bool x)).run Tryz.prog w = .ok (.bool (!x)) w := fun _ _ => rfl
  clear hR h
  go_enter Tryz.func89, Tryz.ntmps89
  go_wp2_with (first | (go_at_call 103; refine HL.out.mono ?_; rintro e w' ⟨rfl, rfl⟩) | (go_at_call 104; refine HS.out.mono ?_; rintro e w2 ⟨rfl, hw2⟩))
  go_end0
  exact ⟨rfl, hw2⟩
theorem rt_drew {W : World} {B : Nat} (h : RT W B) : RT W.drew B := rt_below h (below_drew (Below.refl _ _))
theorem done_is {W w' : World} {R g c : Nat} (hR : W.heap[R]? = some (.cells #[.int .u32 0, .int .i32 0, .int .u32 0, .nilIface, .slice (some ⟨g, 0, none⟩) 4 c] 117 (0, 0)))
    (h : ∃ wb, BSt (W.setCell ⟨R, 1, none⟩ (.int .i32 1)) wb 0 ∧ w' = ((((wb.setCell ⟨R, 3, none⟩ (Iv (W.heap.size + 1))).setCell ⟨R, 4, none⟩ (.slice none 0 0)).drew.setCell ⟨R, 0, none⟩ (.int .u32 1)).setCell ⟨R, 1, none⟩ (.int .i32 0))) :
    w'.cell? ⟨R, 3, none⟩ = some (Iv (W.heap.size + 1)) ∧ RT w' (W.heap.size + 1) ∧ ∀ b, b ≤ R → Below b W w' := by
  obtain ⟨wb, hB, rfl⟩ := h
  have hR1 := blk_set hR 1 (.int .i32 1)
  have hb := ((bst_bel hB).block R (blk_lt hR1)).trans hR1
  have hb3 := blk_set hb 3 (Iv (W.heap.size + 1))
  have hb4 := blk_set hb3 4 (.slice none 0 0)
  have hb5 := blk_set (w := ((wb.setCell ⟨R, 3, none⟩ (Iv (W.heap.size + 1))).setCell ⟨R, 4, none⟩ (.slice none 0 0)).drew) hb4 0 (.int .u32 1)
  have hb6 := blk_set hb5 1 (.int .i32 0)
  have hT := rt_of hB
  rw [show (W.setCell ⟨R, 1, none⟩ (.int .i32 1)).heap.size = W.heap.size by simp] at hT
  have hT2 : RT ((wb.setCell ⟨R, 3, none⟩ (Iv (W.heap.size + 1))).setCell ⟨R, 4, none⟩ (.slice none 0 0)).drew (W.heap.size + 1) := rt_drew (rt_set (rt_set hT hb 3 _) hb3 4 _)
  refine ⟨(blk_cell hb6 3).trans rfl, rt_set (rt_set hT2 hb4 0 _) hb5 1 _, fun b hbR => ?_⟩
  have hlt := blk_lt hR
  have b1 : Below b W (W.setCell ⟨R, 1, none⟩ (.int .i32 1)) := (Below.refl b W).setCell hbR _
  have b2 : Below b W wb := b1.trans ((bst_bel hB).mono (by simp; omega))
  have b3 : Below b W ((wb.setCell ⟨R, 3, none⟩ (Iv (W.heap.size + 1))).setCell ⟨R, 4, none⟩ (.slice none 0 0)) := (b2.setCell hbR _).setCell hbR _
  exact ((below_drew b3).setCell hbR _).setCell hbR _
set_option maxRecDepth 100000 in
set_option maxHeartbeats 4000000 in
theorem repl_any (W : World) (R g c : Nat) (hR : W.heap[R]? = some (.cells #[.int .u32 0, .int .i32 0, .int .u32 0, .nilIface, .slice (some ⟨g, 0, none⟩) 4 c] 117 (0, 0))) (h : Four W g) (hne : g ≠ R) (s : ByteArray) (hs : s.size ≤ 2000) :
    Calls Tryz.prog 67 #[.pointer (some ⟨R, 0, none⟩), .string s] W fun e w' => e = .returned (.string ⟨(WP.es s.data.toList).toArray⟩) ∧ ∀ b, b ≤ R → Below b W w' := by
  have HD := Lib.hid (on_do W R g c hR h hne)
  have HR := Lib.hid hR
  have hmf : ∀ (fn : Fn) (first cap : Array Value) (w : World), (Instr.makeFunc fn first cap).run Tryz.prog w = .ok (.func fn first cap) w := fun _ _ _ _ => rfl
  have hme : ∀ (a : Addr) (w : World), (method 323 164 (.pointer (some a)) "Replace").run Tryz.prog w = .ok (184, .pointer (some a)) w := fun a w => by kernel_rfl
  clear hR h
  go_enter Tryz.func67, Tryz.ntmps67
  go_wp2_with (first | (go_at_call 89; refine HD.out.mono ?_; rintro e w2 ⟨rfl, hw2⟩; obtain ⟨k3, hT, hbel⟩ := done_is HR.out hw2; unfold Iv at k3; have HT := Lib.hid hT; have HBL := Lib.hid hbel; clear hw2 hT hbel) | (go_at_call 184; refine (rep_any _ _ HT.out s hs).mono ?_; rintro e w3 ⟨rfl, hb3⟩; have HB3 := Lib.hid hb3; clear hb3))
  go_ret
  exact ⟨rfl, fun b hb => (HBL.out b hb).trans (HB3.out.mono (by have := (HBL.out b hb).size; have := blk_lt HR.out; omega))⟩
theorem four_own {w1 : World} {base : Nat} {v1 : Value} (h : w1.ownsRow base 9 1 v1 4 [Value.string ⟨#[92]⟩, Value.string ⟨#[92, 92]⟩, Value.string ⟨#[34]⟩, Value.string ⟨#[92, 34]⟩]) :
    ∃ g c, v1 = .slice (some ⟨g, 0, none⟩) 4 c ∧ base ≤ g ∧ g < w1.heap.size ∧ Four w1 g := by
  rcases h.2 with ⟨_, h0⟩ | ⟨g, c, cur, rfl, hg, hh, _⟩
  · cases h0
  have o0 := h.cells (g := g) rfl 0 (.string ⟨#[92]⟩) rfl
  have o1 := h.cells (g := g) rfl 1 (.string ⟨#[92, 92]⟩) rfl
  have o2 := h.cells (g := g) rfl 2 (.string ⟨#[34]⟩) rfl
  have o3 := h.cells (g := g) rfl 3 (.string ⟨#[92, 34]⟩) rfl
  rw [add_plain] at o0 o1 o2 o3
  exact ⟨g, c, rfl, hg, blk_lt hh, o0, o1, o2, o3⟩
theorem four_below {W W' : World} {g : Nat} (h : Four W g) (hb : Below W.heap.size W W') : Four W' g := ⟨pw_cell_below hb h.h0, pw_cell_below hb h.h1, pw_cell_below hb h.h2, pw_cell_below hb h.h3⟩
def NR (w : World) (e : Ending) (w' : World) : Prop :=
  ∃ R g c, e = .returned (.pointer (some ⟨R, 0, none⟩)) ∧ w'.heap[R]? = some (.cells #[.int .u32 0, .int .i32 0, .int .u32 0, .nilIface, .slice (some ⟨g, 0, none⟩) 4 c] 117 (0, 0)) ∧ Four w' g ∧ g ≠ R ∧ w.heap.size ≤ R ∧ Below w.heap.size w w'
set_option maxRecDepth 100000 in
set_option maxHeartbeats 4000000 in
theorem new_repl (w : World) (b c0 : Nat) (h : Four w b) :
    Calls Tryz.prog 66 #[.slice (some ⟨b, 0, none⟩) 4 c0] w (NR w) := by
  have HF := Lib.hid h
  clear h
  obtain ⟨i0, hi, hzz⟩ := Option.map_eq_some_iff.1 info_str
  simp only [Prod.mk.injEq] at hzz
  obtain ⟨hz0, hz1, hz2⟩ := hzz
  have HI := Lib.hid hi
  have HZ0 := Lib.hid hz0
  have HZ1 := Lib.hid hz1
  have HZ2 := Lib.hid hz2
  clear hi hz0 hz1 hz2
  go_enter Tryz.func66, Tryz.ntmps66
  go_wp2_with (at_builtin; (refine wpList_append_own_at _ rfl (.const (.slice none 0 0)) (.tmp 8) 22 rfl w.heap.size 9 i0 (.string ByteArray.empty) 1 16 Tryz.underlying22 HI.out HZ0.out HZ1.out HZ2.out rfl (by decide) (.slice none 0 0) 0 [] rfl (own_nil _ _ _ _) ⟨b, 0, none⟩ 4 c0 [Value.string ⟨#[92]⟩, Value.string ⟨#[92, 92]⟩, Value.string ⟨#[34]⟩, Value.string ⟨#[92, 34]⟩] rfl rfl (fun j u hj => by match j, hj with | 0, hj => cases hj; rw [add_plain]; exact HF.out.h0 | 1, hj => cases hj; rw [add_plain]; exact HF.out.h1 | 2, hj => cases hj; rw [add_plain]; exact HF.out.h2 | 3, hj => cases hj; rw [add_plain]; exact HF.out.h3) (by simp [Value.oneCell']) (by simp [maxLen]) (by decide) (Nat.le_refl _) ?_; intro v1 w1 hown hg _ hat; obtain ⟨g, c, ev, hg0, hg1, hF1⟩ := four_own hown; subst ev; have HX := Lib.hid (And.intro hF1 (And.intro hg0 (And.intro hg1 hg))); clear hown hg hat hg0 hg1 hF1))
  obtain ⟨hF1, hg0, hg1, hgr⟩ := HX.out
  have hbw : Below w.heap.size w w1 := ⟨hgr.os, hgr.tape, hgr.output, hgr.size, fun i hi => hgr.block i hi (by simp [Value.ownBlock])⟩
  go_ret
  exact ⟨w1.heap.size, g, c, rfl, heap_alloc_new w1 _, four_below hF1 (below_alloc (Below.refl _ _) _), by omega, hbw.size, below_alloc hbw _⟩
end Go.Proofs.YtlglbpjccpdloaaGreatDoor.Ext
set_option linter.unusedVariables false
set_option linter.unusedSimpArgs false
namespace Go.Proofs.YtlglbpjccpdloaaGreatDoor.Ext
open Go.RowKit Go.Proofs.YtlglbpjccpdloaaGreatDoorW.PrintWords Go.Proofs.YtlglbpjccpdloaaGreatDoorW.PrintLast Go.Proofs.YtlglbpjccpdloaaGreatDoor.PWrdA
theorem bt_nat (s : ByteArray) (k : Nat) (h : k < s.size) : bt s (k : Int) = (s[k].toNat : Int) := by simp [bt, h]
theorem may_f (c : UInt8) : words_may.f (c.toNat : Int) = some (WP.may c) := by
  unfold words_may.f WP.may
  have h256 : c.toNat < 256 := c.toNat_lt
  by_cases h1 : 32 ≤ c.toNat
  · by_cases h2 : c.toNat ≤ 126
    · rw [if_pos (by omega), if_pos (by omega)]; simp [h1, h2]
    · rw [if_pos (by omega), if_neg (by omega)]
      have e : ((c.toNat : Int) == 9) = decide (c.toNat = 9) := by rw [Bool.eq_iff_iff]; simp; omega
      rw [e]; simp [h1, h2]
  · rw [if_neg (by omega)]
    have e : ((c.toNat : Int) == 9) = decide (c.toNat = 9) := by rw [Bool.eq_iff_iff]; simp; omega
    rw [e]; simp [h1]
theorem blank_f (c : UInt8) : words_blank.f (c.toNat : Int) = some (WP.blk c) := by
  unfold words_blank.f WP.blk
  by_cases h1 : c.toNat = 32
  · rw [if_pos (by omega)]; simp [h1]
  · rw [if_neg (by omega)]
    have e : ((c.toNat : Int) == 9) = decide (c.toNat = 9) := by rw [Bool.eq_iff_iff]; simp; omega
    rw [e]; simp [h1]
theorem toList_data (s : ByteArray) : s.toList = s.data.toList := ByteArray.toList_eq s
theorem plain_l0 (s : ByteArray) (hs : s.size ≤ 9223372036854775807) : ∀ (f k : Nat), s.size - k < f → k ≤ s.size →
    words_Plain.l0 f s (s.size : Int) (k : Int) = some ((s.data.toList.drop k).all WP.pb && (match s.data.toList with | [] => false | c :: _ => !decide (c.toNat = 35))) := by
  intro f
  induction f with
  | zero => intro k h; omega
  | succ f ih =>
    intro k h hk
    unfold words_Plain.l0
    by_cases hlt : k < s.size
    · rw [if_pos (by omega), if_pos (by omega), if_pos (by omega), bt_nat s k hlt, may_f, drop_at s k hlt]
      simp only [Option.bind_some, List.all_cons]
      obtain ⟨c, hc⟩ : ∃ c, s[k] = c := ⟨_, rfl⟩
      rw [hc]
      by_cases h1 : WP.may c = true
      · rw [if_pos h1, blank_f]
        simp only [Option.bind_some]
        by_cases h2 : WP.blk c = true
        · rw [if_pos h2]; simp [WP.pb, h2]
        · rw [if_neg h2]
          by_cases h3 : c.toNat = 34
          · rw [if_pos (by omega)]; simp [WP.pb, h3]
          · rw [if_neg (by omega)]
            by_cases h4 : c.toNat = 92
            · rw [if_pos (by omega)]; simp [WP.pb, h4]
            · rw [if_neg (by omega), show wrap64 ((k : Int) + 1) = ((k + 1 : Nat) : Int) by unfold wrap64; omega, ih (k + 1) (by omega) (by omega)]
              have : WP.pb c = true := by simp [WP.pb, h1, h2, h3, h4]
              rw [this]; simp
      · rw [if_neg h1]; simp [WP.pb, h1]
    · rw [if_neg (by omega), toList_data, drop_end s k (by omega)]
      cases hd : s.data.toList with
      | nil => rw [if_pos rfl]; rfl
      | cons c r =>
        have h0 : 0 < s.size := by have := congrArg List.length hd; simp at this; omega
        have hc : s[0] = c := by
          have := drop_at s 0 h0
          rw [List.drop_zero, hd] at this
          exact (List.cons.inj this).1.symm
        rw [if_neg (by simp), if_pos (by omega), show (0 : Int) = ((0 : Nat) : Int) from rfl, bt_nat s 0 h0, hc]
        have e : ((c.toNat : Int) != 35) = !decide (c.toNat = 35) := by
          rw [Bool.eq_iff_iff]; simp; omega
        rw [e]; rfl
theorem plain_is (s : ByteArray) (hs : s.size ≤ 9223372036854775807) (f : Nat) (hf : s.size < f) : words_Plain.f f s = some (WP.plain s.data.toList) := by
  unfold words_Plain.f
  have h := plain_l0 s hs f 0 (by omega) (Nat.zero_le _)
  rw [show ((0 : Nat) : Int) = 0 from rfl] at h
  rw [h, List.drop_zero]
  cases s.data.toList with
  | nil => rfl
  | cons c r => simp only [WP.plain]; rw [Bool.and_comm]
theorem plain_call (s : ByteArray) (hs : s.size ≤ 2000) (b : Bool) (hb : WP.plain s.data.toList = b) (w : World) :
    Calls Tryz.prog 65 #[.string s] w fun e w' => e = .returned (.bool b) ∧ Drawn0 w w' :=
  words_Plain.calls (s.size + 1) s b w (by rw [plain_is s (by omega) _ (by omega), hb])
def bl (s : ByteArray) : List UInt8 := s.data.toList
structure JB (L : List ByteArray) (w W : World) (i : Nat) (v : Value) : Prop where
  own : W.ownsRow w.heap.size 9 1 v i (strs ((L.take i).map (fun s => WP.qt (bl s))))
  bel : Below w.heap.size w W
  may : ∀ x ∈ L.take i, (bl x).all WP.may = true
theorem qt_len (l : List UInt8) : (WP.qt l).length ≤ 2 * l.length + 2 := by
  unfold WP.qt
  split
  · omega
  · have := WP.es_len l
    have := WP.cn_le l
    simp
    omega
theorem ba_qt_plain (x : ByteArray) (h : WP.plain (bl x) = true) : ba (WP.qt (bl x)) = x := by
  unfold WP.qt
  rw [if_pos h]
  exact ba_self x
theorem ba_qt_quote (x q : ByteArray) (h : WP.plain (bl x) = false) (hq : q = ⟨(WP.es x.data.toList).toArray⟩) : ba (WP.qt (bl x)) = ⟨#[34]⟩ ++ q ++ ⟨#[34]⟩ := by
  unfold WP.qt
  rw [if_neg (by simp [h]), hq]
  apply ByteArray.ext
  apply Array.toList_inj.1
  simp [ba, bl]
theorem jb_next {L : List ByteArray} {w W w1 : World} {i : Nat} {v v1 : Value} {x : ByteArray} {y : ByteArray} (h : JB L w W i v) (hx : L[i]? = some x) (hm : (bl x).all WP.may = true) (hy : y = ba (WP.qt (bl x)))
    (ho : w1.ownsRow w.heap.size 9 1 v1 (strs ((L.take i).map (fun s => WP.qt (bl s))) ++ [Value.string y]).length (strs ((L.take i).map (fun s => WP.qt (bl s))) ++ [Value.string y])) (hb : Below w.heap.size w w1) : JB L w w1 (i + 1) v1 := by
  have hl : i < L.length := by
    rcases Nat.lt_or_ge i L.length with h | h
    · exact h
    · rw [List.getElem?_eq_none h] at hx; cases hx
  have ht : L.take (i + 1) = L.take i ++ [x] := by
    rw [List.take_add_one, hx]; rfl
  refine ⟨?_, hb, ?_⟩
  · have e : strs ((L.take (i + 1)).map (fun s => WP.qt (bl s))) = strs ((L.take i).map (fun s => WP.qt (bl s))) ++ [Value.string y] := by rw [ht, hy]; simp [strs]
    rw [e]
    have el : (strs ((L.take i).map (fun s => WP.qt (bl s))) ++ [Value.string y]).length = i + 1 := by simp [strs]; omega
    rw [el] at ho
    exact ho
  · intro z hz
    rw [ht, List.mem_append] at hz
    rcases hz with hz | hz
    · exact h.may z hz
    · rw [List.mem_singleton.1 hz]; exact hm
theorem jb_len {L : List ByteArray} {i : Nat} (h : i ≤ L.length) : (strs ((L.take i).map (fun s => WP.qt (bl s)))).length = i := by simp [strs]; omega
theorem join_bad {L : List ByteArray} {i : Nat} {x : ByteArray} (h16 : L.length ≤ 16) (hx : L[i]? = some x) (hm : (bl x).all WP.may = false) : WP.join (L.map bl) = [] := by
  unfold WP.join
  rw [if_neg (by simp; omega), if_pos]
  rw [List.all_eq_false]
  exact ⟨bl x, List.mem_map.2 ⟨x, List.mem_iff_getElem?.2 ⟨i, hx⟩, rfl⟩, by simp [hm]⟩
theorem sep_len (l : List (List UInt8)) (h16 : l.length ≤ 16) (h : ∀ x ∈ l, x.length ≤ 2000) : (WP.sep (l.map WP.qt)).length ≤ 100000 := by
  have : ∀ l : List (List UInt8), (∀ x ∈ l, x.length ≤ 2000) → (WP.sep (l.map WP.qt)).length ≤ l.length * 4003 := by
    intro l
    induction l with
    | nil => intro _; simp [WP.sep]
    | cons a r ih =>
      intro h
      have h1 := qt_len a
      have h2 := h a (by simp)
      cases r with
      | nil => simp [WP.sep]; omega
      | cons b r =>
        have h3 := ih (fun x hx => h x (by simp [List.mem_cons] at hx ⊢; exact .inr hx))
        simp only [List.map_cons, WP.sep, List.length_append, List.length_cons] at h3 ⊢
        omega
  have := this l h
  omega
theorem join_sep (l : List (List UInt8)) : Lib.join (l.map (fun b => (ba b).data.toList)) [32] = WP.sep l := by
  induction l with
  | nil => rfl
  | cons a r ih =>
    cases r with
    | nil => simp [Lib.join, List.intercalate, WP.sep, ba]
    | cons b r =>
      have e : Lib.join ((a :: b :: r).map (fun b => (ba b).data.toList)) [32] = (ba a).data.toList ++ 32 :: Lib.join ((b :: r).map (fun b => (ba b).data.toList)) [32] := by simp [Lib.join, List.intercalate, List.intersperse]
      rw [e, ih]
      simp [WP.sep, ba]
theorem strs_form {W : World} {base n : Nat} {v : Value} {ws : List (List UInt8)} (h : W.ownsRow base 9 1 v n (strs ws)) (hn : 0 < n) :
    ∃ g cap, v = .slice (some ⟨g, 0, none⟩) n cap ∧ n ≤ cap ∧ (∀ (j : Nat) x, (ws.map ba)[j]? = some x → W.cell? ⟨g, j, none⟩ = some (.string x)) ∧ g < W.heap.size := by
  rcases h.2 with ⟨_, h0⟩ | ⟨g, cap, cur, rfl, hg, hh, hle, _⟩
  · have := h.1; rw [h0] at this; simp at this; omega
  refine ⟨g, cap, rfl, hle, fun j x hj => ?_, blk_lt hh⟩
  have := h.cells (g := g) rfl j (.string x) (by
    simp only [strs, List.getElem?_map] at hj ⊢
    cases hw : ws[j]? with
    | none => rw [hw] at hj; cases hj
    | some b => rw [hw] at hj; simp at hj ⊢; exact hj)
  rwa [add_plain] at this
theorem four_new (W : World) : Four (W.alloc (.cells #[.string ⟨#[92]⟩, .string ⟨#[92, 92]⟩, .string ⟨#[34]⟩, .string ⟨#[92, 34]⟩] 9)) W.heap.size := by
  have h := heap_alloc_new W (.cells #[.string ⟨#[92]⟩, .string ⟨#[92, 92]⟩, .string ⟨#[34]⟩, .string ⟨#[92, 34]⟩] 9)
  exact ⟨(blk_cell h 0).trans rfl, (blk_cell h 1).trans rfl, (blk_cell h 2).trans rfl, (blk_cell h 3).trans rfl⟩
set_option maxRecDepth 100000 in
set_option maxHeartbeats 8000000 in
theorem join_walk (bk off c : Nat) (L : List ByteArray) (w : World) (hL : 0 < L.length) (h16 : L.length ≤ 16) (hcells : ∀ (j : Nat) x, L[j]? = some x → w.cell? ⟨bk, off + j, none⟩ = some (.string x)) (hbk : bk < w.heap.size) (hsz : ∀ x ∈ L, x.size ≤ 2000) :
    Calls Tryz.prog 41 #[.slice (some ⟨bk, off, none⟩) L.length c] w fun e w' => e = .returned (.string (ba (WP.join (L.map bl)))) ∧ Below w.heap.size w w' := by
  have HC := Lib.hid hcells
  have HSZ := Lib.hid hsz
  clear hcells hsz
  go_enter Tryz.func41, Tryz.ntmps41
  go_wp2_with fail
  go_loopg [3, 13] L.length (fun g v3 v13 W2 => ∃ i : Nat, g = L.length - i ∧ i ≤ L.length ∧ v13 = .int .i64 i ∧ JB L w W2 i v3)
  case atStart => exact ⟨0, by omega, by omega, rfl, ⟨own_nil _ _ _ _, Below.refl _ _, by simp⟩⟩
  case round =>
    obtain ⟨i, hg, hi, rfl, hJ⟩ := hrel
    have HG := Lib.hid hg
    have HJ := Lib.hid hJ
    clear hg hJ
    by_cases hi2 : i < L.length
    · obtain ⟨x, hx⟩ : ∃ x, L[i]? = some x := ⟨_, List.getElem?_eq_getElem hi2⟩
      have hxs : x.size ≤ 2000 := HSZ.out x (List.mem_iff_getElem?.2 ⟨i, hx⟩)
      have hcx := (HJ.out.bel.cell (p := ⟨bk, off + i, none⟩) hbk).trans (HC.out i x hx)
      have HX := Lib.hid hx
      clear hx
      obtain ⟨wo, hwo⟩ : ∃ wo : World, wo = wr := ⟨_, rfl⟩
      subst hwo
      go_wp2_with fail
      go_loopg [19] x.size (fun g v19 W2 => wo = W2 ∧ ∃ k : Nat, g = x.size - k ∧ k ≤ x.size ∧ v19 = .int .i64 k ∧ ((bl x).take k).all WP.may = true)
      case atStart => exact ⟨rfl, 0, by omega, by omega, rfl, rfl⟩
      case round =>
        obtain ⟨rfl, k, hg2, hk, rfl, ham⟩ := hrel
        have HG2 := Lib.hid hg2
        have HA := Lib.hid ham
        clear hg2 ham
        by_cases hk2 : k < x.size
        · obtain ⟨b, hb⟩ : ∃ b, x[k]'hk2 = b := ⟨_, rfl⟩
          cases hm : WP.may b
          · have HY := cy b false hm
            have hall : (bl x).all WP.may = false := by
              rw [List.all_eq_false]
              exact ⟨b, by rw [← hb]; exact List.getElem_mem (l := x.data.toList) (by simpa using hk2), by simp [hm]⟩
            have HALL := Lib.hid hall
            clear hall hm
            go_wp2_with (go_at_call 64; refine (HY.out _).mono ?_; rintro e w1 ⟨rfl, rfl⟩)
            go_ret
            have hfin : Ending.returned (.string ⟨#[]⟩) = Ending.returned (.string (ba (WP.join (L.map bl)))) := by rw [join_bad h16 HX.out HALL.out]; rfl
            exact ⟨hfin, HJ.out.bel⟩
          · have HY := cy b true hm
            have hall : ((bl x).take (k + 1)).all WP.may = true := by
              unfold bl
              rw [take_snoc_b x k hk2, hb, List.all_append]
              have := HA.out
              unfold bl at this
              rw [this]
              simp [hm]
            have HALL := Lib.hid hall
            clear hall hm
            go_wp2_with (go_at_call 64; refine (HY.out _).mono ?_; rintro e w1 ⟨rfl, rfl⟩)
            go_roundg (x.size - (k + 1))
            case measure => have := HG2.out; omega
            case rel => exact ⟨rfl, k + 1, rfl, by omega, rfl, HALL.out⟩
        · have hall : (bl x).all WP.may = true := by
            have h := HA.out
            have : k = x.size := by omega
            subst this
            unfold bl at h ⊢
            rwa [take_all] at h
          have HALL := Lib.hid hall
          clear hall
          cases hp : WP.plain x.data.toList
          · have HP := Lib.hid (fun w => plain_call x hxs false hp w)
            have HPL := Lib.hid hp
            clear hp
            have hi16 : i ≤ 16 := by omega
            obtain ⟨q, hq⟩ : ∃ q : ByteArray, q = ⟨(WP.es x.data.toList).toArray⟩ := ⟨_, rfl⟩
            have hqs : q.size ≤ 4000 := by
              rw [hq]
              show (WP.es x.data.toList).toArray.size ≤ 4000
              have h1 := WP.es_len x.data.toList
              have h2 := WP.cn_le x.data.toList
              rw [List.size_toArray]
              have h3 : x.data.toList.length = x.size := by simp
              omega
            have HQ := Lib.hid hq
            clear hq
            go_wp2_with (first | (go_at_call 65; refine (HP.out _).mono ?_; rintro e w1 ⟨rfl, ⟨nd, rfl⟩⟩) |
              (go_at_call 66; (refine (new_repl _ wo.heap.size 4 (four_new (wo.drewN nd))).mono ?_; rintro e w1 ⟨R, g, c2, rfl, hR, hF, hne, hRs, hb1⟩; have HR := Lib.hid (And.intro hR (And.intro hF (And.intro hne (And.intro hRs hb1)))); clear hR hF hne hRs hb1)) |
              (go_at_call 67; (refine (repl_any w1 R g c2 HR.out.1 HR.out.2.1 HR.out.2.2.1 x hxs).mono ?_; rintro e w2 ⟨he, hb2⟩; rw [← HQ.out] at he; subst he; have HB2 := Lib.hid (HR.out.2.2.2.2.trans ((hb2 _ HR.out.2.2.2.1))); clear hb2; have HW2 : Hid (Below w.heap.size w w2) := Lib.hid (below_then ((pw_below_drewN HJ.out.bel nd).alloc HJ.out.bel.size _) (by have := HJ.out.bel.size; rw [show ∀ (X : World) o, (X.alloc o).heap.size = X.heap.size + 1 from fun X o => by simp]; exact Nat.le_succ_of_le this) HB2.out))) |
              (at_builtin; (refine print_append (w0 := _) w.heap.size rfl (.tmp 37) (.tmp 39) 22 9 (.string ByteArray.empty) 16 rfl Tryz.underlying22 info_str rfl (by decide) u3 (strs ((L.take i).map (fun s => WP.qt (bl s)))) _ rfl rfl rfl (by rw [jb_len hi]; exact pw_own_below ((pw_own_drewN HJ.out.own nd).alloc _) HB2.out) (Below.refl _ _) HW2.out.size (by rw [jb_len hi]; omega) ?_; intro v1 w3 hown hbel hgr hat; have HN := Lib.hid (jb_next HJ.out HX.out HALL.out (ba_qt_quote x q HPL.out HQ.out).symm hown (HW2.out.trans hbel)); clear hown hbel hgr hat)))
            go_roundg (L.length - (i + 1))
            case measure => have := HG.out; omega
            case rel => exact ⟨i + 1, rfl, by omega, rfl, HN.out⟩
          · have HP := Lib.hid (fun w => plain_call x hxs true hp w)
            have HPL := Lib.hid hp
            clear hp
            have hi16 : i ≤ 16 := by omega
            go_wp2_with (first | (go_at_call 65; refine (HP.out _).mono ?_; rintro e w1 ⟨rfl, ⟨nd, rfl⟩⟩) | (at_builtin; (refine print_append (w0 := _) w.heap.size rfl (.tmp 37) (.tmp 39) 22 9 (.string ByteArray.empty) 16 rfl Tryz.underlying22 info_str rfl (by decide) u3 (strs ((L.take i).map (fun s => WP.qt (bl s)))) (.string x) rfl rfl rfl (by rw [jb_len hi]; exact pw_own_drewN HJ.out.own nd) (Below.refl _ _) HJ.out.bel.size (by rw [jb_len hi]; omega) ?_; intro v1 w1 hown hbel hgr hat; have HN := Lib.hid (jb_next HJ.out HX.out HALL.out (ba_qt_plain x HPL.out).symm hown ((pw_below_drewN HJ.out.bel nd).trans hbel)); clear hown hbel hgr hat)))
            go_roundg (L.length - (i + 1))
            case measure => have := HG.out; omega
            case rel => exact ⟨i + 1, rfl, by omega, rfl, HN.out⟩
    · obtain rfl : i = L.length := by omega
      obtain ⟨hown, hbel, hmay⟩ := HJ.out
      rw [List.take_of_length_le (Nat.le_refl _)] at hown hmay
      obtain ⟨g, cap, hv, hcap, hcl, hgb⟩ := strs_form hown hL
      subst hv
      have hjl : (Lib.join (((L.map bl).map WP.qt).map (fun b => (ba b).data.toList)) [32]).length ≤ 140737488355328 := by
        rw [join_sep]
        exact Nat.le_trans (sep_len (L.map bl) (by simpa using h16) (fun x hx => by obtain ⟨y, hy, rfl⟩ := List.mem_map.1 hx; have := HSZ.out y hy; simpa [bl] using this)) (by decide)
      have CJ := Tryz.strings_Join g 0 cap (((L.map bl).map WP.qt).map ba) ⟨#[32]⟩ wr (fun j x hj => by rw [Nat.zero_add]; exact hcl j x (by simpa [List.map_map, Function.comp_def] using hj)) hgb (by simp; omega) (by simpa using hcap) (by rw [List.map_map]; exact hjl)
      rw [show ((List.map WP.qt (List.map bl L)).map ba).length = L.length by simp] at CJ
      rw [List.map_map, show (Lib.join (List.map ((fun x => x.data.toList) ∘ ba) (List.map WP.qt (List.map bl L))) (ByteArray.data ⟨#[32]⟩).toList) = WP.sep ((L.map bl).map WP.qt) from join_sep _] at CJ
      have hres : WP.join (L.map bl) = if 256 < (WP.sep ((L.map bl).map WP.qt)).length then [] else WP.sep ((L.map bl).map WP.qt) := by
        unfold WP.join
        rw [if_neg (by simpa using h16), if_neg]
        rw [Bool.not_eq_false, List.all_eq_true]
        intro x hx
        obtain ⟨y, hy, rfl⟩ := List.mem_map.1 hx
        exact hmay y hy
      have HRES := Lib.hid hres
      have HCJ := Lib.hid CJ
      have HBL := Lib.hid hbel
      clear hres CJ hbel hown hmay hcl hjl hcap
      generalize hsep : WP.sep ((L.map bl).map WP.qt) = sp at HCJ HRES
      have hsl : (⟨sp.toArray⟩ : ByteArray).size = sp.length := by show sp.toArray.size = _; rw [List.size_toArray]
      by_cases hbig : 256 < sp.length
      · have hq : (256 : Int) < (sp.length : Int) := by omega
        have hr := HRES.out
        rw [if_pos hbig] at hr
        have HR := Lib.hid hr
        clear hr hbig hsl hsep
        go_wp2_with (go_at_call 52; refine HCJ.out.mono ?_; rintro e w1 ⟨rfl, hb1⟩; have HB1 := Lib.hid hb1; clear hb1)
        go_ret
        have hfin : Ending.returned (.string ⟨#[]⟩) = Ending.returned (.string (ba (WP.join (L.map bl)))) := by rw [HR.out]; rfl
        exact ⟨hfin, below_then HBL.out HBL.out.size HB1.out⟩
      · have hq : ¬ (256 : Int) < (sp.length : Int) := by omega
        have hr := HRES.out
        rw [if_neg hbig] at hr
        have HR := Lib.hid hr
        clear hr hbig hsl hsep
        go_wp2_with (go_at_call 52; refine HCJ.out.mono ?_; rintro e w1 ⟨rfl, hb1⟩; have HB1 := Lib.hid hb1; clear hb1)
        go_ret
        have hfin : Ending.returned (.string ⟨sp.toArray⟩) = Ending.returned (.string (ba (WP.join (L.map bl)))) := by rw [HR.out]; rfl
        exact ⟨hfin, below_then HBL.out HBL.out.size HB1.out⟩
set_option maxRecDepth 100000 in
set_option maxHeartbeats 4000000 in
theorem join_many (A0 : Option Addr) (n c : Nat) (L : List ByteArray) (hn : L.length = n) (w : World) (h16 : 16 < n) :
    Calls Tryz.prog 41 #[.slice A0 n c] w fun e w' => e = .returned (.string (ba (WP.join (L.map bl)))) ∧ Below w.heap.size w w' := by
  have hr : WP.join (L.map bl) = [] := by unfold WP.join; rw [if_pos (by simp; omega)]
  have HR := Lib.hid hr
  have hq : (16 : Int) < (n : Int) := by omega
  clear hr hn h16
  go_enter Tryz.func41, Tryz.ntmps41
  go_wp2_with fail
  go_ret
  have hfin : Ending.returned (.string ⟨#[]⟩) = Ending.returned (.string (ba (WP.join (L.map bl)))) := by rw [HR.out]; rfl
  exact ⟨hfin, Below.refl _ _⟩
set_option maxRecDepth 100000 in
set_option maxHeartbeats 4000000 in
theorem join_empty (A0 : Option Addr) (c : Nat) (w : World) :
    Calls Tryz.prog 41 #[.slice A0 0 c] w fun e w' => e = .returned (.string (ba (WP.join []))) ∧ Below w.heap.size w w' := by
  have HJ := Lib.hid (fun w => Tryz.strings_Join_none none 0 ⟨#[32]⟩ w)
  go_enter Tryz.func41, Tryz.ntmps41
  go_wp2_with fail
  refine wp_loop_rounds 1 ?_
  rw [rounds_succ]
  go_wp2_with (go_at_call 52; refine (HJ.out _).mono ?_; rintro e w1 ⟨rfl, rfl⟩)
  go_ret
  exact ⟨rfl, Below.refl _ _⟩
def words_Join.f (l0 : List ByteArray) : Option ByteArray := if 16 < l0.length ∨ l0.all (fun x => decide (x.size ≤ 2000)) = true then some (ba (WP.join (l0.map bl))) else none
theorem words_Join.calls (A0 : Option Addr) (c0 : Nat) (l0 : List ByteArray) (r : ByteArray) (w : World) (hr0 : Kd.C Kd.string w A0 l0.length l0) (hc0 : l0.length ≤ c0) (h : words_Join.f l0 = some r) :
    Calls Tryz.prog 41 #[.slice A0 l0.length c0] w fun e w' => e = .returned (.string r) ∧ Below w.heap.size w w' := by
  unfold words_Join.f at h
  split at h
  · rename_i hs
    cases Option.some.inj h
    by_cases h16 : 16 < l0.length
    · exact join_many A0 l0.length c0 l0 rfl w h16
    replace hs := hs.resolve_left h16
    by_cases h0 : l0 = []
    · subst h0
      exact join_empty A0 c0 w
    have hl : 0 < l0.length := List.length_pos_iff.2 h0
    obtain ⟨ad, rfl, hcell⟩ := hr0.2.2 hl
    have hcells : ∀ (j : Nat) x, l0[j]? = some x → w.cell? (ad.add j) = some (.string x) := by
      intro j x hj
      obtain ⟨c, _, hK, hu⟩ := hcell j x hj
      have hK' : c = [Value.string x] := hK
      subst hK'
      have := hu 0 _ rfl
      have e : j * Kd.string.sz + 0 = j := by show j * 1 + 0 = j; omega
      rwa [e] at this
    have hz := hcells 0 _ (List.getElem?_eq_getElem hl)
    have hsp : ad.spot = none := by
      have : ad.add 0 = ad := by simp [Addr.add]
      rw [this] at hz
      unfold World.cell? at hz
      split at hz
      · split at hz
        · cases hz
        · rename_i h; simpa using h
      · cases hz
    have hbk : ad.block < w.heap.size := by
      have := World.block_lt_of_cell? _ _ hz
      simpa [Addr.add] using this
    have hadd : ∀ j, ad.add j = ⟨ad.block, ad.off + j, none⟩ := by
      intro j
      unfold Addr.add
      split
      · rename_i h; subst h; cases ad; simp at hsp; simp [hsp]
      · rfl
    have e : (some ad : Option Addr) = some ⟨ad.block, ad.off, none⟩ := by cases ad; simp at hsp; simp [hsp]
    rw [e]
    exact join_walk ad.block ad.off c0 l0 w hl (by omega) (fun j x hj => by rw [← hadd]; exact hcells j x hj) hbk (fun x hx => by have := List.all_eq_true.1 hs x hx; simpa using this)
  · cases h
end Go.Proofs.YtlglbpjccpdloaaGreatDoor.Ext
set_option linter.unusedVariables false
namespace Go.Proofs.YtlglbpjccpdloaaGreatDoor.ToxZ
open Go.RowKit Go.Proofs.YtlglbpjccpdloaaGreatDoorW.PrintWords Go.Proofs.YtlglbpjccpdloaaGreatDoorW.PrintLast Go.Proofs.YtlglbpjccpdloaaGreatDoor.Ext
def chicaneref01_Text.f (a0 : Int) : Option ByteArray := some (tickText a0)
theorem chicaneref01_Text.calls (a0 : Int) (r : ByteArray) (w : World) (h : chicaneref01_Text.f a0 = some r) :
    Calls Tryz.prog 38 #[.int .i64 a0] w fun e w' => e = .returned (.string r) ∧ Below w.heap.size w w' := by
  refine (PToxR.chicaneref01_Text.calls 16 a0 r w (by rw [ToxRef.reftext_is a0 16 (by omega)]; exact h)).mono ?_
  rintro e w' ⟨rfl, hb⟩
  exact ⟨rfl, by first | exact below_of_drawn hb | exact hb⟩
end Go.Proofs.YtlglbpjccpdloaaGreatDoor.ToxZ
set_option linter.unusedVariables false
set_option linter.unusedSimpArgs false
set_option linter.unusedVariables false
set_option linter.unusedSimpArgs false
set_option linter.unusedVariables false
set_option linter.unusedSimpArgs false
set_option linter.unusedVariables false
set_option linter.unusedSimpArgs false
namespace Go.Proofs.YtlglbpjccpdloaaGreatDoor.ToxZ
open Go.RowKit Go.Proofs.YtlglbpjccpdloaaGreatDoor.Tox
def chicaneref09_Parse.f (a0 : ByteArray) : Option (ByteArray × Int × Bool × Int × Int × Int × Int) := if a0.size ≤ 1000000000 then some (parseOf a0) else none
end Go.Proofs.YtlglbpjccpdloaaGreatDoor.ToxZ
namespace Go.Proofs.YtlglbpjccpdloaaGreatDoor.POrdB
open Go.Proofs.YtlglbpjccpdloaaGreatDoor.Ext Go.Proofs.YtlglbpjccpdloaaGreatDoor.ToxZ Go.Proofs.YtlglbpjccpdloaaGreatDoor.PWrdA Go.RowKit Go.Proofs.YtlglbpjccpdloaaGreatDoorW.PrintWords Go.Proofs.YtlglbpjccpdloaaGreatDoorW.PrintLast Go.Proofs.YtlglbpjccpdloaaGreatDoorW.PrintMore
attribute [local go_sem] max2_int min2_int max_two min_two max_three min_three max_four min_four   -- for this text's walks alone
set_option linter.unusedVariables false
set_option linter.unusedSimpArgs false
def errW : Option Int → Value
 | none => .nilIface
 | some c => .iface 0 (.int .i64 c)
theorem errW_none : errW none = .nilIface := rfl
theorem errW_some (c : Int) : errW (some c) = .iface 0 (.int .i64 c) := rfl
theorem info9 : (Tryz.prog.info? 9).map (fun i => (i.zero, i.size, i.bytes)) = some (some (.string ⟨#[]⟩), 1, 16) := by kernel_rfl
end Go.Proofs.YtlglbpjccpdloaaGreatDoor.POrdB
