/- Table[int,string]: slices.Delete, slices.Clone. Printed by gen_tab.py. -/
import Derived.Test.YtamnmpcnhaeigaaTabCW
namespace Go.Proofs.Ytamnmpcnhaeigaa.TabW
open Go.RowKit
set_option linter.unusedVariables false


end Go.Proofs.Ytamnmpcnhaeigaa.TabW
