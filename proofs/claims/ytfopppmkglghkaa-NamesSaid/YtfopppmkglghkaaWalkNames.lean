/- The walk of Names: a test of five closed sentences. -/
import Derived.Test.YtfopppmkglghkaaBase
import Derived.Test.YtfopppmkglghkaaRows
namespace Go.Proofs.Ytfopppmkglghkaa
open Go.RowKit

theorem names_walk (w : World) : Calls Try.prog 3 #[] w fun e w' => e = .returned (.bool true) ∧ Fr [] w w' := by
  go_enter Try.func3, Try.ntmps3
  go_wp2
  go_ret
  exact ⟨rfl, Fr.refl _ _⟩

end Go.Proofs.Ytfopppmkglghkaa
