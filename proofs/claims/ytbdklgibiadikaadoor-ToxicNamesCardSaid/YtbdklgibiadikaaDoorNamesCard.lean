/- The tied card of ToxicNames. -/
import Derived.Test.YtbdklgibiadikaaDoorNamesRow
import Derived.Test.YtbdklgibiadikaaDoorCards
import Derived.Test.YtbdklgibiadikaaDoorTie
import Derived.SevenTiedAt
namespace Go.Proofs.YtbdklgibiadikaaDoor
theorem toxicNamesCard_holds : Rows.ToxicNamesCardSaid :=
  Claim7.holds_tied_plain_at .later [] [.data, .pinned] true (true, "99576d82d0084c6b05418c92a7fb4617ed3eb6b81426edbcb8e959fcb59a007d") false
    toxicNames_holds (fun _ h => by cases h) (by kernel_rfl) (fun _ h => by cases h) toxicNames_row_tie rfl ⟨rfl, rfl⟩ (by kernel_rfl) rfl
    (fun f fn hf hfn => by
      obtain rfl : f = 7 := Option.some.inj ((show Tryd.prog.funcNamed "chicane/chicanelaw09.ToxicNames" = some 7 by kernel_rfl).symm.trans hf) |>.symm
      obtain rfl : fn = Tryd.f7 := (Option.some.inj (Tryd.func7.symm.trans hfn)).symm
      exact ⟨by kernel_rfl, fun j t ht => by
        rw [Tryd.params7] at ht
        have h3 : t = 9 ∨ t = 5 := by
          rcases j with _ | j
          · have e : t = 9 := by simpa using ht.symm
            exact Or.inl e
          rcases j with _ | j
          · have e : t = 5 := by simpa using ht.symm
            exact Or.inr (e)
          simp at ht
        rcases h3 with rfl | rfl
        · exact (show Tryd.prog.wantsStandIn 9 = false by kernel_rfl)
        · exact (show Tryd.prog.wantsStandIn 5 = false by kernel_rfl)⟩)
    (by kernel_rfl)
end Go.Proofs.YtbdklgibiadikaaDoor
