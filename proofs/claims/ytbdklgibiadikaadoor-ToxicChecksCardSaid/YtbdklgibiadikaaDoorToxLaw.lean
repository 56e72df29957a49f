/- The laws of chapter 09, in plain words. -/
import Derived.Test.YtbdklgibiadikaaDoorToxZR
import Derived.Test.YtbdklgibiadikaaDoorPToxC3
set_option linter.unusedVariables false
set_option linter.unusedSimpArgs false
namespace Go.Proofs.YtbdklgibiadikaaDoor.ToxLaw
open Go.RowKit Go.Proofs.YtbdklgibiadikaaDoor.Ext Go.Proofs.YtbdklgibiadikaaDoor.Tox Go.Proofs.YtbdklgibiadikaaDoor.ToxRef Go.Proofs.YtbdklgibiadikaaDoorW.PrintWords Go.Proofs.YtbdklgibiadikaaDoorW.PrintLast

theorem alive_is : PToxC.chicanelaw09_alive.f = some true := by kernel_rfl

theorem refText_is (n : ByteArray) (k : Int) (up : Bool) (o a b : Int) : refText n k up o a b = textOf n k up o a b := by
  unfold refText textOf
  by_cases h : checkOf n k up o a b = 0
  · rw [if_pos h, if_pos h]
    unfold signs
    by_cases hk : k ≤ 3
    · rw [if_pos hk, if_pos hk]
      apply ByteArray.ext
      apply Array.toList_inj.1
      cases up <;> simp [joined, Lib.join, List.intercalate, List.intersperse, ByteArray.data_append, blk, wayR, wayOf, List.append_assoc]
    · rw [if_neg hk, if_neg hk]
      apply ByteArray.ext
      apply Array.toList_inj.1
      cases up <;> simp [joined, Lib.join, List.intercalate, List.intersperse, ByteArray.data_append, blk, wayR, wayOf, List.append_assoc]
  · rw [if_neg h, if_neg h]

theorem checks_is (n : ByteArray) (k : Int) (up : Bool) (o a b : Int) : PToxC.chicanelaw09_ToxicChecks.f n k up o a b = some true := by
  unfold PToxC.chicanelaw09_ToxicChecks.f
  rw [alive_is]
  by_cases hs : (n.size : Int) > 1000
  · rw [if_pos hs]; rfl
  · have hz : n.size ≤ 4611686018427387904 := by omega
    rw [if_neg hs, Option.bind_some, if_pos rfl]
    simp [ToxZ.toxic_Check.f, ToxZ.toxic_Right.f, ToxZ.toxic_Text.f, ToxZ.chicaneref09_Check.f, ToxZ.chicaneref09_Text.f, ToxZ.chicaneref09_Name.f, toxic_Name.f, hz, refText_is]

end Go.Proofs.YtbdklgibiadikaaDoor.ToxLaw
