/- Contracts of the reference's Size and Get. -/
import Derived.Test.YtkkgigdgbiklmaaDoorStr
import Derived.Test.YtkkgigdgbiklmaaDoorByte
namespace Go.Proofs.YtkkgigdgbiklmaaDoor
open Go.RowKit

end Go.Proofs.YtkkgigdgbiklmaaDoor
