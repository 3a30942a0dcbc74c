/- Contract: the reference's Sum. -/
import Derived.Test.YtnnajaomajgoeaaCheckA
namespace Go.Proofs.Ytnnajaomajgoeaa
open Go.RowKit

end Go.Proofs.Ytnnajaomajgoeaa
