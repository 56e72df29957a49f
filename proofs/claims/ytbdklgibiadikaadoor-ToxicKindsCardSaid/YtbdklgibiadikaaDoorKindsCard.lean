/- The tied card of ToxicKinds. -/
import Derived.Test.YtbdklgibiadikaaDoorKindsRow
import Derived.Test.YtbdklgibiadikaaDoorCards
import Derived.Test.YtbdklgibiadikaaDoorTie
import Derived.SevenTiedAt
namespace Go.Proofs.YtbdklgibiadikaaDoor
theorem toxicKindsCard_holds : Rows.ToxicKindsCardSaid :=
  Claim7.holds_tied_plain_at .later [] [.data, .pinned] true (true, "99576d82d0084c6b05418c92a7fb4617ed3eb6b81426edbcb8e959fcb59a007d") false
    toxicKinds_holds (fun _ h => by cases h) (by kernel_rfl) (fun _ h => by cases h) toxicKinds_row_tie rfl ⟨rfl, rfl⟩ (by kernel_rfl) rfl
    (fun f fn hf hfn => by
      obtain rfl : f = 8 := Option.some.inj ((show Tryd.prog.funcNamed "chicane/chicanelaw09.ToxicKinds" = some 8 by kernel_rfl).symm.trans hf) |>.symm
      obtain rfl : fn = Tryd.f8 := (Option.some.inj (Tryd.func8.symm.trans hfn)).symm
      exact ⟨by kernel_rfl, fun j t ht => by
        rw [Tryd.params8] at ht
        have h3 : t = 3 ∨ t = 9 := by
          rcases j with _ | j
          · have e : t = 3 := by simpa using ht.symm
            exact Or.inl e
          rcases j with _ | j
          · have e : t = 9 := by simpa using ht.symm
            exact Or.inr (e)
          simp at ht
        rcases h3 with rfl | rfl
        · exact (show Tryd.prog.wantsStandIn 3 = false by kernel_rfl)
        · exact (show Tryd.prog.wantsStandIn 9 = false by kernel_rfl)⟩)
    (by kernel_rfl)
end Go.Proofs.YtbdklgibiadikaaDoor
