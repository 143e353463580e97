/- Made by program: all parts. -/
import Derived.Test.YtbddjkbbnflnkaaGen1
import Derived.Test.YtbddjkbbnflnkaaGen2
import Derived.Test.YtbddjkbbnflnkaaGen3
import Derived.Test.YtbddjkbbnflnkaaGen4
namespace Go.Proofs.Ytbddjkbbnflnkaa
end Go.Proofs.Ytbddjkbbnflnkaa
