/- The tied card of ToxicReads. -/
import Derived.Test.YtbdklgibiadikaaDoorReadsRow
import Derived.Test.YtbdklgibiadikaaDoorCards
import Derived.Test.YtbdklgibiadikaaDoorTie
import Derived.SevenTiedAt
namespace Go.Proofs.YtbdklgibiadikaaDoor
theorem toxicReadsCard_holds : Rows.ToxicReadsCardSaid :=
  Claim7.holds_tied_plain_at .later [] [.data, .pinned] true (true, "99576d82d0084c6b05418c92a7fb4617ed3eb6b81426edbcb8e959fcb59a007d") false
    toxicReads_holds (fun _ h => by cases h) (by kernel_rfl) (fun _ h => by cases h) toxicReads_row_tie rfl ⟨rfl, rfl⟩ (by kernel_rfl) rfl
    (fun f fn hf hfn => by
      obtain rfl : f = 4 := Option.some.inj ((show Tryd.prog.funcNamed "chicane/chicanelaw09.ToxicReads" = some 4 by kernel_rfl).symm.trans hf) |>.symm
      obtain rfl : fn = Tryd.f4 := (Option.some.inj (Tryd.func4.symm.trans hfn)).symm
      exact ⟨by kernel_rfl, fun j t ht => by
        rw [Tryd.params4] at ht
        have h3 : t = 9 := by
          rcases j with _ | j
          · simpa using ht.symm
          simp at ht
        rcases h3 with rfl
        · exact (show Tryd.prog.wantsStandIn 9 = false by kernel_rfl)⟩)
    (by kernel_rfl)
end Go.Proofs.YtbdklgibiadikaaDoor
