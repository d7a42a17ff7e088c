/- The sum of two fractions, as RationalField's parts name it. -/
import Derived.Test.YtfappkhohddcjaaDoorFieldL
namespace Go.Proofs.YtfappkhohddcjaaDoor

def addF (F G : Fr) : Fr := ofF (F.n * G.d + G.n * F.d) (F.d * G.d)

end Go.Proofs.YtfappkhohddcjaaDoor
