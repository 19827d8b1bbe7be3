/- LinkOrder's walk, and slices of integers that came in. -/
import Derived.Test.YtafgacfbplilpaaLinkO
import Derived.Test.YtafgacfbplilpaaRowIn
namespace Go.Proofs.Ytafgacfbplilpaa
theorem linkX_here : True := trivial
end Go.Proofs.Ytafgacfbplilpaa
