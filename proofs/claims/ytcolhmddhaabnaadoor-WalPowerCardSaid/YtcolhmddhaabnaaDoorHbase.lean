import Derived.Test.YtcolhmddhaabnaaDoorHall
import Derived.Test.YtcolhmddhaabnaaDoorProg
namespace Go.Proofs.YtcolhmddhaabnaaDoor
open Go.H
noncomputable abbrev P : Program := Tryd.prog
theorem follows_P : P.follows .mixedOrders = true := by kernel_rfl
end Go.Proofs.YtcolhmddhaabnaaDoor
