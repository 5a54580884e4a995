/- The contracts of the digest's parts. -/
import Derived.Test.YtfanpbfmnckmnaaGreatRows
import Derived.Test.YtfanpbfmnckmnaaGreatPlain
import Derived.Test.YtfanpbfmnckmnaaGreatZa
import Derived.WalkKit
import Derived.WalkSpells
import Derived.WalkLawsBesides
namespace Go.Proofs.YtfanpbfmnckmnaaGreat
open Go.RowKit

end Go.Proofs.YtfanpbfmnckmnaaGreat
