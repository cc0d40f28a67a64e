/-
  Texts that the last one of this claim leans on (part 4).
-/
import Derived.Test.YtffgjmfkkfinlaaGreatJc
set_option linter.unusedSimpArgs false
set_option linter.unusedVariables false
set_option linter.unusedSectionVars false

/-
  The closed tests of layers 21, 23 and 24, and the tax years, run by the kernel.
-/
namespace Go.Proofs.YtffgjmfkkfinlaaGreat
open Go Vm
theorem pays_run : callN Tryz.prog cfg 200 5 [] [] = some ([.s (.bool true)], []) := by kernel_rfl
end Go.Proofs.YtffgjmfkkfinlaaGreat
