/- Gathered by a program of this session (shake.py): what the claim's theorem needs. -/
import Derived.Test.YtlglbpjccpdloaaGreatDoorOz1
import Derived.Test.YtlglbpjccpdloaaGreatDoorOz3
import Derived.Test.YtlglbpjccpdloaaGreatDoorOz6
import Derived.Test.YtlglbpjccpdloaaGreatDoorOz7
import Derived.Lib.LaidU8
import Derived.MakeChecks
import Derived.Test.YtlglbpjccpdloaaGreatDoorRows
set_option linter.unusedVariables false
set_option linter.unusedSimpArgs false
namespace Go.Proofs.YtlglbpjccpdloaaGreatDoor.Ext
end Go.Proofs.YtlglbpjccpdloaaGreatDoor.Ext
namespace Go.Proofs.YtlglbpjccpdloaaGreatDoor.POrdB
end Go.Proofs.YtlglbpjccpdloaaGreatDoor.POrdB
namespace Go.Proofs.YtlglbpjccpdloaaGreatDoor.PWrdA
end Go.Proofs.YtlglbpjccpdloaaGreatDoor.PWrdA
namespace Go.Proofs.YtlglbpjccpdloaaGreatDoor.Tox
end Go.Proofs.YtlglbpjccpdloaaGreatDoor.Tox
namespace Go.Proofs.YtlglbpjccpdloaaGreatDoor.ToxPlain
end Go.Proofs.YtlglbpjccpdloaaGreatDoor.ToxPlain
namespace Go.Proofs.YtlglbpjccpdloaaGreatDoor.ToxZ
end Go.Proofs.YtlglbpjccpdloaaGreatDoor.ToxZ
namespace Go.Proofs.YtlglbpjccpdloaaGreatDoorW.PrintLast
end Go.Proofs.YtlglbpjccpdloaaGreatDoorW.PrintLast
namespace Go.Proofs.YtlglbpjccpdloaaGreatDoorW.PrintMore
end Go.Proofs.YtlglbpjccpdloaaGreatDoorW.PrintMore
namespace Go.Proofs.YtlglbpjccpdloaaGreatDoorW.PrintWords
end Go.Proofs.YtlglbpjccpdloaaGreatDoorW.PrintWords
namespace Go.Proofs.YtlglbpjccpdloaaGreatDoor.POrdB
open Go.Proofs.YtlglbpjccpdloaaGreatDoor.Ext Go.Proofs.YtlglbpjccpdloaaGreatDoor.ToxZ Go.Proofs.YtlglbpjccpdloaaGreatDoor.PWrdA Go.RowKit Go.Proofs.YtlglbpjccpdloaaGreatDoorW.PrintWords Go.Proofs.YtlglbpjccpdloaaGreatDoorW.PrintLast Go.Proofs.YtlglbpjccpdloaaGreatDoorW.PrintMore
attribute [local go_sem] max2_int min2_int max_two min_two max_three min_three max_four min_four   -- for this text's walks alone
set_option linter.unusedVariables false
set_option linter.unusedSimpArgs false
attribute [local go_sem high] eqA27
def chicanelaw16_OrderBack.j0 : Nat → Bool → Int → ByteArray → ByteArray → Int → ByteArray → Int → Bool → Int → Int → Int → Option (Bool)
 | 0, _, _, _, _, _, _, _, _, _, _, _ => none
 | k + 1, x23, x339000, x339001, x339002, x339003, x339004, x339005, x339006, x339007, x339008, x339009 => if x23 = true then ((chicanelaw16_alive.f k).bind fun t340 => (some t340)) else ((order_Words.f k x339000 x339001 x339002 x339003 x339004 x339005 x339006 x339007 x339008 x339009).bind fun t341 => ((order_FromWords.f t341).bind fun bt344 => (if (t341.length : Int) = 0 then ((chicanelaw16_alive.f k).bind fun t356 => (if t356 = true then (some (bt344.2.2.2.2.2.2.2.2.2.2 == 160)) else (some false))) else ((chicanelaw16_alive.f k).bind fun t357 => (if t357 = true then (if bt344.2.2.2.2.2.2.2.2.2.2 = 0 then (some (bt344.1 == x339000 && (bt344.2.1.toList == x339001.toList && (bt344.2.2.1.toList == x339002.toList && (bt344.2.2.2.1 == x339003 && ((bt344.2.2.2.2.1.toList == x339004.toList && (bt344.2.2.2.2.2.1 == x339005 && (bt344.2.2.2.2.2.2.1 == x339006 && (bt344.2.2.2.2.2.2.2.1 == x339007 && (bt344.2.2.2.2.2.2.2.2.1 == x339008 && (bt344.2.2.2.2.2.2.2.2.2.1 == x339009)))))))))))) else (some false)) else (some false))))))
def chicanelaw16_OrderBack.f (k : Nat) (a0_0 : Int) (a0_1 : ByteArray) (a0_2 : ByteArray) (a0_3 : Int) (a0_4 : ByteArray) (a0_5 : Int) (a0_6 : Bool) (a0_7 : Int) (a0_8 : Int) (a0_9 : Int) : Option (Bool) := if (wrap64 ((wrap64 ((a0_1.size : Int) + (a0_2.size : Int))) + (a0_4.size : Int))) > 1000 then (chicanelaw16_OrderBack.j0 k true a0_0 a0_1 a0_2 a0_3 a0_4 a0_5 a0_6 a0_7 a0_8 a0_9) else ((chicaneref16_Clean.f k a0_0 a0_1 a0_2 a0_3 a0_4 a0_5 a0_6 a0_7 a0_8 a0_9).bind fun t339 => (chicanelaw16_OrderBack.j0 k (!t339) a0_0 a0_1 a0_2 a0_3 a0_4 a0_5 a0_6 a0_7 a0_8 a0_9))
theorem chicanelaw16_OrderBack.mono_l : ∀ k, (∀ y0 y1 y2 y3 y4 y5 y6 y7 y8 y9 y10, LeO (chicanelaw16_OrderBack.j0 k y0 y1 y2 y3 y4 y5 y6 y7 y8 y9 y10) (chicanelaw16_OrderBack.j0 (k + 1) y0 y1 y2 y3 y4 y5 y6 y7 y8 y9 y10))
 | 0 => fun _ _ _ _ _ _ _ _ _ _ _ r h => by simp [chicanelaw16_OrderBack.j0] at h
 | k + 1 => by
  have ih0 := chicanelaw16_OrderBack.mono_l k
  ·intro y0 y1 y2 y3 y4 y5 y6 y7 y8 y9 y10
   unfold chicanelaw16_OrderBack.j0
   repeat' first
   | (with_reducible exact ih0 _ _ _ _ _ _ _ _ _ _ _)
   | (with_reducible exact chicanelaw16_alive.mono _)
   | (with_reducible exact chicaneref16_Clean.mono _ _ _ _ _ _ _ _ _ _ _)
   | (with_reducible exact order_Words.mono _ _ _ _ _ _ _ _ _ _ _)
   | (with_reducible exact LeO.refl _)
   | (with_reducible exact LeO.none _)
   | (with_reducible refine LeO.ite ?_ ?_)
   | (with_reducible refine LeO.bind ?_ (fun _ => ?_))
   | exact ih0 _ _ _ _ _ _ _ _ _ _ _
   | exact chicanelaw16_alive.mono _
   | exact chicaneref16_Clean.mono _ _ _ _ _ _ _ _ _ _ _
   | exact order_Words.mono _ _ _ _ _ _ _ _ _ _ _
   | exact LeO.none _
   | refine LeO.ite ?_ ?_
   | refine LeO.bind ?_ (fun _ => ?_)
theorem chicanelaw16_OrderBack.mono : ∀ a0 a1 a2 a3 a4 a5 a6 a7 a8 a9 k, LeO (chicanelaw16_OrderBack.f k a0 a1 a2 a3 a4 a5 a6 a7 a8 a9) (chicanelaw16_OrderBack.f (k + 1) a0 a1 a2 a3 a4 a5 a6 a7 a8 a9) := by
 intro a0 a1 a2 a3 a4 a5 a6 a7 a8 a9 k
 have ih0 := chicanelaw16_OrderBack.mono_l k
 unfold chicanelaw16_OrderBack.f
 repeat' first
   | (with_reducible exact ih0 _ _ _ _ _ _ _ _ _ _ _)
   | (with_reducible exact chicanelaw16_alive.mono _)
   | (with_reducible exact chicaneref16_Clean.mono _ _ _ _ _ _ _ _ _ _ _)
   | (with_reducible exact order_Words.mono _ _ _ _ _ _ _ _ _ _ _)
   | (with_reducible exact LeO.refl _)
   | (with_reducible exact LeO.none _)
   | (with_reducible refine LeO.ite ?_ ?_)
   | (with_reducible refine LeO.bind ?_ (fun _ => ?_))
   | exact ih0 _ _ _ _ _ _ _ _ _ _ _
   | exact chicanelaw16_alive.mono _
   | exact chicaneref16_Clean.mono _ _ _ _ _ _ _ _ _ _ _
   | exact order_Words.mono _ _ _ _ _ _ _ _ _ _ _
   | exact LeO.none _
   | refine LeO.ite ?_ ?_
   | refine LeO.bind ?_ (fun _ => ?_)
end Go.Proofs.YtlglbpjccpdloaaGreatDoor.POrdB
namespace Go.Proofs.YtlglbpjccpdloaaGreatDoor.POrdB
open Go.Proofs.YtlglbpjccpdloaaGreatDoor.Ext Go.Proofs.YtlglbpjccpdloaaGreatDoor.ToxZ Go.Proofs.YtlglbpjccpdloaaGreatDoor.PWrdA Go.RowKit Go.Proofs.YtlglbpjccpdloaaGreatDoorW.PrintWords Go.Proofs.YtlglbpjccpdloaaGreatDoorW.PrintLast Go.Proofs.YtlglbpjccpdloaaGreatDoorW.PrintMore
attribute [local go_sem] max2_int min2_int max_two min_two max_three min_three max_four min_four   -- for this text's walks alone
set_option linter.unusedVariables false
set_option linter.unusedSimpArgs false
attribute [local go_sem high] eqA27
def chicanelaw16_OrderOnce.f (k : Nat) (a0 : ByteArray) : Option (Bool) := if (a0.size : Int) > 1000 then ((chicanelaw16_alive.f k).bind fun t358 => (some t358)) else ((order_Parse.f a0).bind fun bt359 => (if bt359.2.2.2.2.2.2.2.2.2.2 = 0 then ((order_Text.f k bt359.1 bt359.2.1 bt359.2.2.1 bt359.2.2.2.1 bt359.2.2.2.2.1 bt359.2.2.2.2.2.1 bt359.2.2.2.2.2.2.1 bt359.2.2.2.2.2.2.2.1 bt359.2.2.2.2.2.2.2.2.1 bt359.2.2.2.2.2.2.2.2.2.1).bind fun t372 => ((order_Parse.f t372).bind fun bt373 => ((chicanelaw16_alive.f k).bind fun t385 => (if t385 = true then ((chicaneref16_Clean.f k bt359.1 bt359.2.1 bt359.2.2.1 bt359.2.2.2.1 bt359.2.2.2.2.1 bt359.2.2.2.2.2.1 bt359.2.2.2.2.2.2.1 bt359.2.2.2.2.2.2.2.1 bt359.2.2.2.2.2.2.2.2.1 bt359.2.2.2.2.2.2.2.2.2.1).bind fun t386 => (if t386 = true then (if t372.toList = ([] : List UInt8) then (some true) else (if bt373.2.2.2.2.2.2.2.2.2.2 = 0 then (some (bt373.1 == bt359.1 && (bt373.2.1.toList == bt359.2.1.toList && (bt373.2.2.1.toList == bt359.2.2.1.toList && (bt373.2.2.2.1 == bt359.2.2.2.1 && ((bt373.2.2.2.2.1.toList == bt359.2.2.2.2.1.toList && (bt373.2.2.2.2.2.1 == bt359.2.2.2.2.2.1 && (bt373.2.2.2.2.2.2.1 == bt359.2.2.2.2.2.2.1 && (bt373.2.2.2.2.2.2.2.1 == bt359.2.2.2.2.2.2.2.1 && (bt373.2.2.2.2.2.2.2.2.1 == bt359.2.2.2.2.2.2.2.2.1 && (bt373.2.2.2.2.2.2.2.2.2.1 == bt359.2.2.2.2.2.2.2.2.2.1)))))))))))) else (some false))) else (some false))) else (some false))))) else ((chicanelaw16_alive.f k).bind fun t371 => (if t371 = true then (some (bt359.1 == 0 && (bt359.2.1.toList == ([] : List UInt8) && (bt359.2.2.1.toList == ([] : List UInt8) && (bt359.2.2.2.1 == 0 && ((bt359.2.2.2.2.1.toList == ([] : List UInt8) && (bt359.2.2.2.2.2.1 == 0 && (!bt359.2.2.2.2.2.2.1 && (bt359.2.2.2.2.2.2.2.1 == 0 && (bt359.2.2.2.2.2.2.2.2.1 == 0 && (bt359.2.2.2.2.2.2.2.2.2.1 == 0)))))))))))) else (some false)))))
theorem chicanelaw16_OrderOnce.mono : ∀ a0 k, LeO (chicanelaw16_OrderOnce.f k a0) (chicanelaw16_OrderOnce.f (k + 1) a0) := by
 intro a0 k
 unfold chicanelaw16_OrderOnce.f
 repeat' first
   | (with_reducible exact chicanelaw16_alive.mono _)
   | (with_reducible exact chicaneref16_Clean.mono _ _ _ _ _ _ _ _ _ _ _)
   | (with_reducible exact order_Text.mono _ _ _ _ _ _ _ _ _ _ _)
   | (with_reducible exact LeO.refl _)
   | (with_reducible exact LeO.none _)
   | (with_reducible refine LeO.ite ?_ ?_)
   | (with_reducible refine LeO.bind ?_ (fun _ => ?_))
   | exact chicanelaw16_alive.mono _
   | exact chicaneref16_Clean.mono _ _ _ _ _ _ _ _ _ _ _
   | exact order_Text.mono _ _ _ _ _ _ _ _ _ _ _
   | exact LeO.none _
   | refine LeO.ite ?_ ?_
   | refine LeO.bind ?_ (fun _ => ?_)
end Go.Proofs.YtlglbpjccpdloaaGreatDoor.POrdB
namespace Go.Proofs.YtlglbpjccpdloaaGreatDoor.POrdB
open Go.Proofs.YtlglbpjccpdloaaGreatDoor.Ext Go.Proofs.YtlglbpjccpdloaaGreatDoor.ToxZ Go.Proofs.YtlglbpjccpdloaaGreatDoor.PWrdA Go.RowKit Go.Proofs.YtlglbpjccpdloaaGreatDoorW.PrintWords Go.Proofs.YtlglbpjccpdloaaGreatDoorW.PrintLast Go.Proofs.YtlglbpjccpdloaaGreatDoorW.PrintMore
attribute [local go_sem] max2_int min2_int max_two min_two max_three min_three max_four min_four   -- for this text's walks alone
set_option linter.unusedVariables false
set_option linter.unusedSimpArgs false
attribute [local go_sem high] eqA27
def chicanelaw16_OrderVerbs.l0 : Nat → Int → List ByteArray → Int → Int → Option (Bool)
 | 0, _, _, _, _ => none
 | k + 1, x0, x13, x14, x15 => if x15 < x14 then (if 0 ≤ x15 then (if x15 < (x13.length : Int) then ((chicaneref15_Split.f k (rdOf ByteArray.empty x13 x15)).bind fun bt393 => (if bt393.2.2 = 0 then ((chicaneref16_Verb.f (wrap64 (x15 + 1))).bind fun t398 => ((chicaneref15_Same.f k bt393.1 t398).bind fun t401 => (if t401 = true then (chicanelaw16_OrderVerbs.l0 k x0 x13 x14 (wrap64 (x15 + 1))) else (some false)))) else (some false))) else (none)) else (none)) else ((chicanelaw16_alive.f k).bind fun t390 => (if t390 = true then ((order_Changes.f x0).bind fun t391 => (if x0 ≥ 1 then (if x0 ≤ 7 then (some (t391 == true)) else (some (t391 == (x0 == 10)))) else (some (t391 == (x0 == 10))))) else (some false)))
def chicanelaw16_OrderVerbs.f (k : Nat) (a0 : Int) : Option (Bool) := (order_Verbs.f).bind fun t387 => (if (t387.length : Int) = 10 then (chicanelaw16_OrderVerbs.l0 k a0 t387 (t387.length : Int) 0) else (some false))
theorem chicanelaw16_OrderVerbs.mono_l : ∀ k, (∀ y0 y1 y2 y3, LeO (chicanelaw16_OrderVerbs.l0 k y0 y1 y2 y3) (chicanelaw16_OrderVerbs.l0 (k + 1) y0 y1 y2 y3))
 | 0 => fun _ _ _ _ r h => by simp [chicanelaw16_OrderVerbs.l0] at h
 | k + 1 => by
  have ih0 := chicanelaw16_OrderVerbs.mono_l k
  ·intro y0 y1 y2 y3
   unfold chicanelaw16_OrderVerbs.l0
   repeat' first
   | (with_reducible exact ih0 _ _ _ _)
   | (with_reducible exact chicanelaw16_alive.mono _)
   | (with_reducible exact chicaneref15_Same.mono _ _ _)
   | (with_reducible exact chicaneref15_Split.mono _ _)
   | (with_reducible exact LeO.refl _)
   | (with_reducible exact LeO.none _)
   | (with_reducible refine LeO.ite ?_ ?_)
   | (with_reducible refine LeO.bind ?_ (fun _ => ?_))
   | exact ih0 _ _ _ _
   | exact chicanelaw16_alive.mono _
   | exact chicaneref15_Same.mono _ _ _
   | exact chicaneref15_Split.mono _ _
   | exact LeO.none _
   | refine LeO.ite ?_ ?_
   | refine LeO.bind ?_ (fun _ => ?_)
theorem chicanelaw16_OrderVerbs.mono : ∀ a0 k, LeO (chicanelaw16_OrderVerbs.f k a0) (chicanelaw16_OrderVerbs.f (k + 1) a0) := by
 intro a0 k
 have ih0 := chicanelaw16_OrderVerbs.mono_l k
 unfold chicanelaw16_OrderVerbs.f
 repeat' first
   | (with_reducible exact ih0 _ _ _ _)
   | (with_reducible exact chicanelaw16_alive.mono _)
   | (with_reducible exact chicaneref15_Same.mono _ _ _)
   | (with_reducible exact chicaneref15_Split.mono _ _)
   | (with_reducible exact LeO.refl _)
   | (with_reducible exact LeO.none _)
   | (with_reducible refine LeO.ite ?_ ?_)
   | (with_reducible refine LeO.bind ?_ (fun _ => ?_))
   | exact ih0 _ _ _ _
   | exact chicanelaw16_alive.mono _
   | exact chicaneref15_Same.mono _ _ _
   | exact chicaneref15_Split.mono _ _
   | exact LeO.none _
   | refine LeO.ite ?_ ?_
   | refine LeO.bind ?_ (fun _ => ?_)
end Go.Proofs.YtlglbpjccpdloaaGreatDoor.POrdB
set_option linter.unusedVariables false
set_option linter.unusedSimpArgs false
namespace Go.Proofs.YtlglbpjccpdloaaGreatDoor.Ext
open Go.RowKit Go.Proofs.YtlglbpjccpdloaaGreatDoorW.PrintWords Go.Proofs.YtlglbpjccpdloaaGreatDoorW.PrintLast Go.Proofs.YtlglbpjccpdloaaGreatDoor.PWrdA Go.Proofs.YtlglbpjccpdloaaGreatDoor.ToxZ Go.Proofs.YtlglbpjccpdloaaGreatDoor.Tox Go.Proofs.YtlglbpjccpdloaaGreatDoor.ToxPlain Go.Proofs.YtlglbpjccpdloaaGreatDoor.POrdB
theorem alive16 (k : Nat) (hk : 100 ≤ k) : chicanelaw16_alive.f k = some true := at_rounds chicanelaw16_alive.mono hk chicanelaw16_alive.at100
end Go.Proofs.YtlglbpjccpdloaaGreatDoor.Ext
set_option linter.unusedVariables false
namespace Go.Proofs.YtlglbpjccpdloaaGreatDoor.Ext
open Go.RowKit
set_option maxRecDepth 100000 in
theorem laid_asciiSpace_is {H : Type} : (Rows.laid_strings_asciiSpace : DataW H) = Lib.tabData .u8 Lib.asciiSpaceTab := by rfl
set_option maxRecDepth 100000 in
theorem tab_of_laid {w : World} {l : List (String × DataW Unit)} (h : laidMetH Tryz.prog l w) (hp : (l.all fun x => x.2.handleName?.isNone) = true) (hm : ("strings.asciiSpace", (Rows.laid_strings_asciiSpace : DataW Unit)) ∈ l) : Tab w := by
  rw [MakeChecks.laidMetH_plain _ _ _ hp] at h
  obtain ⟨g, t, cs, fuel, p, hg, ht, hv, hd⟩ := Lib.laidMet.reads h hm
  have hg2 : Tryz.prog.globalNamed "strings.asciiSpace" = some 0 := by kernel_rfl
  obtain rfl := Option.some.inj (hg2.symm.trans hg)
  have h1 : ((Tryz.prog.globals[0]?).bind fun x => Tryz.prog.underlying x.type) = some (.array 256 5) := by kernel_rfl
  have h2 : ((Tryz.prog.globals[0]?).map fun x => Tryz.prog.cellsOf x.type) = some 256 := by kernel_rfl
  obtain ⟨x, hx, rfl⟩ := Option.map_eq_some_iff.1 ht
  rw [hx] at h1 h2
  rw [laid_asciiSpace_is] at hd
  have hc := Lib.cells_of_tab (P := Tryz.prog) h1 Tryz.underlying5 (by kernel_rfl) (Option.some.inj h2) hd
  unfold Tab Lib.TabIs
  rw [hv, ← hc]
end Go.Proofs.YtlglbpjccpdloaaGreatDoor.Ext
