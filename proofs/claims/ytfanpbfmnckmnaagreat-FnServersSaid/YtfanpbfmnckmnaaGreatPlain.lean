/- Plain facts on the digest: no program in sight. -/
import Derived.Lib.Hide
namespace Go.Proofs.YtfanpbfmnckmnaaGreat

end Go.Proofs.YtfanpbfmnckmnaaGreat
