/- Contracts of the reference's Size and Get. -/
import Derived.Test.YtnnajaomajgoeaaStr
import Derived.Test.YtnnajaomajgoeaaByte
namespace Go.Proofs.Ytnnajaomajgoeaa
open Go.RowKit

end Go.Proofs.Ytnnajaomajgoeaa
