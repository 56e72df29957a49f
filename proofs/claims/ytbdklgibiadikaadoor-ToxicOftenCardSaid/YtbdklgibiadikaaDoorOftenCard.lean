/- The tied card of ToxicOften. -/
import Derived.Test.YtbdklgibiadikaaDoorOftenRow
import Derived.Test.YtbdklgibiadikaaDoorCards
import Derived.Test.YtbdklgibiadikaaDoorTie
import Derived.SevenTiedAt
namespace Go.Proofs.YtbdklgibiadikaaDoor
theorem toxicOftenCard_holds : Rows.ToxicOftenCardSaid :=
  Claim7.holds_tied_plain_at .later [] [.data, .pinned] true (true, "99576d82d0084c6b05418c92a7fb4617ed3eb6b81426edbcb8e959fcb59a007d") false
    toxicOften_holds (fun _ h => by cases h) (by kernel_rfl) (fun _ h => by cases h) toxicOften_row_tie rfl ⟨rfl, rfl⟩ (by kernel_rfl) rfl
    (fun f fn hf hfn => by
      obtain rfl : f = 6 := Option.some.inj ((show Tryd.prog.funcNamed "chicane/chicanelaw09.ToxicOften" = some 6 by kernel_rfl).symm.trans hf) |>.symm
      obtain rfl : fn = Tryd.f6 := (Option.some.inj (Tryd.func6.symm.trans hfn)).symm
      exact ⟨by kernel_rfl, fun j t ht => by
        rw [Tryd.params6] at ht
        have h3 : t = 23 ∨ t = 3 ∨ t = 3 := by
          rcases j with _ | j
          · have e : t = 23 := by simpa using ht.symm
            exact Or.inl e
          rcases j with _ | j
          · have e : t = 3 := by simpa using ht.symm
            exact Or.inr (Or.inl e)
          rcases j with _ | j
          · have e : t = 3 := by simpa using ht.symm
            exact Or.inr (Or.inr (e))
          simp at ht
        rcases h3 with rfl | rfl | rfl
        · exact (show Tryd.prog.wantsStandIn 23 = false by kernel_rfl)
        · exact (show Tryd.prog.wantsStandIn 3 = false by kernel_rfl)
        · exact (show Tryd.prog.wantsStandIn 3 = false by kernel_rfl)⟩)
    (by kernel_rfl)
end Go.Proofs.YtbdklgibiadikaaDoor
