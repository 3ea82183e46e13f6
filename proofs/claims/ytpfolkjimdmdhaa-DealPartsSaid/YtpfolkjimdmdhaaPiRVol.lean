/- The reference's Volume, Batch as contracts. No condition. -/
import Derived.Test.YtpfolkjimdmdhaaPiRValid
namespace Go.Proofs.Ytpfolkjimdmdhaa
open Go.RowKit Sy
set_option linter.unusedVariables false
set_option linter.unusedSimpArgs false
end Go.Proofs.Ytpfolkjimdmdhaa
