/- Walks. -/
import Derived.Test.YtpoahaadnbdgcaaRef
namespace Go.Proofs.Ytpoahaadnbdgcaa
open Go.RowKit Go.Shelf


end Go.Proofs.Ytpoahaadnbdgcaa
