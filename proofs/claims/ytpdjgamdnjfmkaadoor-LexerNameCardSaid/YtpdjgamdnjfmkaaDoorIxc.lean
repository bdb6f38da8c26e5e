/-
  Ig, Ih, Ij in one text.
-/
import Derived.Test.YtpdjgamdnjfmkaaDoorIxb
namespace Go.Proofs.YtpdjgamdnjfmkaaDoor
open Go.RowKit
set_option linter.unusedVariables false
set_option linter.unusedSimpArgs false
end Go.Proofs.YtpdjgamdnjfmkaaDoor
namespace Go.Proofs.YtpdjgamdnjfmkaaDoor
open Go.RowKit
set_option linter.unusedVariables false
set_option linter.unusedSimpArgs false
end Go.Proofs.YtpdjgamdnjfmkaaDoor
namespace Go.Proofs.YtpdjgamdnjfmkaaDoor
open Go.RowKit
set_option linter.unusedVariables false
set_option linter.unusedSimpArgs false
end Go.Proofs.YtpdjgamdnjfmkaaDoor
