/- The pure statement of FnExactConstants: every constant is what the law compares it with. -/
import Derived.Test.YtefbodommaoaiaaPFnExactConstantsx1
namespace Go.Proofs.Ytefbodommaoaiaa.Pure
open Go.RowKit Go.Proofs.Ytefbodommaoaiaa.PFnExactConstants Go.Proofs.YtefbodommaoaiaaW.PrintWords Go.Proofs.YtefbodommaoaiaaW.PrintLast

theorem FnExactConstants : laws_FnExactConstants.Pure := by
  unfold laws_FnExactConstants.Pure
  rfl

end Go.Proofs.Ytefbodommaoaiaa.Pure
