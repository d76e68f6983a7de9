/- The chapter's examples: the disk. -/
import Derived.Test.YtpceckmjoicdlaaDoorDiskQ
namespace Go.Proofs.YtpceckmjoicdlaaDoor
open Go.RowKit
variable {w0 w w' : World} {s : DS} {pa : Nat → Addr}

end Go.Proofs.YtpceckmjoicdlaaDoor
