/- Two closed facts of this seat's program that every row's frame asks for. -/
import Derived.Test.YtobdooojdadgpaaBase
import Derived.OpenShut
import Derived.Test.YtobdooojdadgpaaRows
namespace Go.Proofs.Ytobdooojdadgpaa
theorem own : ownKnob Try.prog.godebug = none := by kernel_rfl
theorem laid : laidOutB Try.prog = true := by kernel_rfl
end Go.Proofs.Ytobdooojdadgpaa
