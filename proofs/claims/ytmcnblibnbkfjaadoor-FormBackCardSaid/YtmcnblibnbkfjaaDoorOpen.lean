/-
  The seat's closed facts for its cards; a list of fields, a field, as arguments. No condition.
-/
import Derived.Test.YtmcnblibnbkfjaaDoorLay
import Derived.Test.YtmcnblibnbkfjaaDoorPost
import Derived.Test.YtmcnblibnbkfjaaDoorTie
import Derived.Test.YtmcnblibnbkfjaaDoorWalkE
import Derived.Test.YtmcnblibnbkfjaaDoorWalkJ
import Derived.Deep.DeepHandedRow
import Derived.Deep.Slices
import Derived.Deep.Strs
import Derived.Lib.LaidTab
import Derived.Lib.SmallJoins
import Derived.Stop.LaidErr
import Derived.SizedLaws
import Derived.ChangeMaps5
namespace Go.Proofs.YtmcnblibnbkfjaaDoor
open Go Go.ChangeShapes Go.WideShapes Go.ChangeAt Go.RowKit

theorem own : ownKnob Tryd.prog.godebug = none := by kernel_rfl
theorem laidOut : laidOutB Tryd.prog = true := by kernel_rfl
theorem gPow : Tryd.prog.globalNamed "internal/strconv.uint64pow10" = some 3 := by kernel_rfl
theorem gPowType : (Tryd.prog.globals[3]?).map (·.type) = some 114 := by kernel_rfl
theorem cellsPow : Tryd.prog.cellsOf 114 = 20 := by kernel_rfl
theorem cellsU64 : Tryd.prog.cellsOf 66 = 1 := by kernel_rfl
theorem gRng : Tryd.prog.globalNamed "strconv.ErrRange" = some 2 := by kernel_rfl
theorem gRngType : (Tryd.prog.globals[2]?).map (·.type) = some 44 := by kernel_rfl
theorem gSyn : Tryd.prog.globalNamed "strconv.ErrSyntax" = some 1 := by kernel_rfl
theorem gSynType : (Tryd.prog.globals[1]?).map (·.type) = some 44 := by kernel_rfl
theorem cellsES : Tryd.prog.cellsOf 124 = 1 := by kernel_rfl
theorem cellsStr : Tryd.prog.cellsOf 9 = 1 := by kernel_rfl
theorem star : "*" ++ "errors.errorString" = "*errors.errorString" := by decide
theorem rowES (u : TypeId) (h : Tryd.prog.typeName? 3 u = some "*errors.errorString") : u = 122 :=
  typeName_ptr_named (nm := "errors.errorString") (by rw [star]; kernel_rfl) (by kernel_rfl) (by decide) u (by rw [star]; exact h)
/-- What the rows' list gives: the library's table of powers of ten, and its two error values. -/
theorem env_of_laid {W : World} (h : laidMetH Tryd.prog Rows.formNamesRow.laid W) : W12.Env W := by
  have h3 := laidMet.tail (laidMet.tail h)
  refine ⟨Lib.tabIs_of_head gPow gPowType Tryd.underlying114 Tryd.underlying66 cellsU64 cellsPow h3, ?_, ?_⟩
  · obtain ⟨a, s, hv, _⟩ := laid_sentinel (laidMet.tail (laidMet.tail h3)) gSyn gSynType Tryd.underlying44 rowES Tryd.underlying122 Tryd.underlying124 rfl rfl Tryd.underlying9 cellsES cellsStr
    exact ⟨_, World.var?_cell gSyn hv 0, .inr ⟨_, _, rfl⟩⟩
  · obtain ⟨a, s, hv, _⟩ := laid_sentinel (laidMet.tail h3) gRng gRngType Tryd.underlying44 rowES Tryd.underlying122 Tryd.underlying124 rfl rfl Tryd.underlying9 cellsES cellsStr
    exact ⟨_, World.var?_cell gRng hv 0, .inr ⟨_, _, rfl⟩⟩
end Go.Proofs.YtmcnblibnbkfjaaDoor
