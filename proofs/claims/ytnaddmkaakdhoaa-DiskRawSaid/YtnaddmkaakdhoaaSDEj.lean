/-
  Texts of this claim, joined, without what the claim does not use: LawDB
-/
import Derived.Test.YtnaddmkaakdhoaaSCAn
import Derived.Test.YtnaddmkaakdhoaaSDEa
import Derived.Test.YtnaddmkaakdhoaaSDEb
import Derived.Test.YtnaddmkaakdhoaaSDEc
import Derived.Test.YtnaddmkaakdhoaaSDEd
import Derived.Test.YtnaddmkaakdhoaaSDEe
import Derived.Test.YtnaddmkaakdhoaaSDEf
import Derived.Test.YtnaddmkaakdhoaaSDEg
import Derived.Test.YtnaddmkaakdhoaaSDEh
import Derived.Test.YtnaddmkaakdhoaaSDEi
namespace Go.Proofs.Ytnaddmkaakdhoaa.J
theorem base_use : True := by
  have _ := @apply1_calls
  have _ := @apply32_calls
  have _ := @applyAll_calls
  have _ := @applyAll101_calls
  have _ := @read_calls
  have _ := @list39_calls
  have _ := @crash_calls
  have _ := @crash42_calls
  have _ := @validate_calls
  have _ := @validate36_calls
  have _ := @same37_calls
  have _ := @sameOps70_calls
  have _ := @known43_calls
  have _ := @example76_calls
  have _ := @build45_calls
  have _ := @op48_calls
  have _ := @next47_calls
  have _ := @name46_calls
  have _ := @bl_eq
  have _ := @find57_calls
  have _ := @copied56_calls
  have _ := @settle58_calls
  have _ := @choice71_int
  have _ := @mod_f
  have _ := @corporamade_New.calls
  have _ := @corporamade_Mod.calls
  have _ := @Go.Proofs.YtnaddmkaakdhoaaW.PrintWords.Kd.R_append_rows
  have _ := @Go.Proofs.YtnaddmkaakdhoaaW.PrintWords.Kd.R_append_row
  trivial
end Go.Proofs.Ytnaddmkaakdhoaa.J

