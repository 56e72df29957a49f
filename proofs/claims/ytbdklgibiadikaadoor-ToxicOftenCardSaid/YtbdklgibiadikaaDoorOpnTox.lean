/- A toxic as a law's argument. -/
import Derived.Test.YtbdklgibiadikaaDoorRead
import Derived.Test.YtbdklgibiadikaaDoorProg
set_option linter.unusedVariables false
namespace Go.Proofs.YtbdklgibiadikaaDoor

abbrev T6 := ByteArray × Int × Bool × Int × Int × Int
def tox6 (t : T6) : List Value := [.string t.1, .int .i64 t.2.1, .bool t.2.2.1, .int .i64 t.2.2.2.1, .int .i64 t.2.2.2.2.1, .int .i64 t.2.2.2.2.2]
theorem opn_tox : Opn Tryd.prog 23 tox6 (fun _ t => t.1.size ≤ 9223372036854775807) := by
  refine opn_struct1 Tryd.underlying23 ?_
  intro H enc w base sp held n cs xs hlen hf
  rw [show Tryd.prog.cellsOf 23 = 6 by kernel_rfl] at hlen
  have hi : Tryd.prog.cellsOf 3 = 1 := by kernel_rfl
  have hs : Tryd.prog.cellsOf 9 = 1 := by kernel_rfl
  have hb : Tryd.prog.cellsOf 4 = 1 := by kernel_rfl
  match cs, hlen with
  | [c0, c1, c2, c3, c4, c5], _ =>
    obtain ⟨y0, h0⟩ := hf 0 _ rfl
    obtain ⟨y1, h1⟩ := hf 1 _ rfl
    obtain ⟨y2, h2⟩ := hf 2 _ rfl
    obtain ⟨y3, h3⟩ := hf 3 _ rfl
    obtain ⟨y4, h4⟩ := hf 4 _ rfl
    obtain ⟨y5, h5⟩ := hf 5 _ rfl
    simp [hi, hs, hb] at h0 h1 h2 h3 h4 h5
    obtain ⟨a, e0, w0⟩ := opn_string Tryd.underlying9 H enc w base sp held n _ _ h0
    obtain ⟨b, e1, w1⟩ := opn_int Tryd.underlying3 H enc w base sp held n _ _ h1
    obtain ⟨c, e2, w2⟩ := opn_bool Tryd.underlying4 H enc w base sp held n _ _ h2
    obtain ⟨d, e3, w3⟩ := opn_int Tryd.underlying3 H enc w base sp held n _ _ h3
    obtain ⟨e, e4, w4⟩ := opn_int Tryd.underlying3 H enc w base sp held n _ _ h4
    obtain ⟨f, e5, w5⟩ := opn_int Tryd.underlying3 H enc w base sp held n _ _ h5
    injection e0 with e0
    injection e1 with e1
    injection e2 with e2
    injection e3 with e3
    injection e4 with e4
    injection e5 with e5
    subst e0 e1 e2 e3 e4 e5
    exact ⟨(a, b, c, d, e, f), rfl, w0⟩
end Go.Proofs.YtbdklgibiadikaaDoor
