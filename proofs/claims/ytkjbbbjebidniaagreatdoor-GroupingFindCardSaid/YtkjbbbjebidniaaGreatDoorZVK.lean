/- The run of awake, reckoned by the kernel. -/
import Derived.KernelRfl
import Derived.Test.YtkjbbbjebidniaaGreatDoorProg
import Derived.Test.YtkjbbbjebidniaaGreatDoorZV0
namespace Go.Proofs.YtkjbbbjebidniaaGreatDoor
open Go

/-- The functions that awake comes to. -/
def awakeMask : Nat := 2464662062422334868703652583504492431801304140482610807927030591414984976263260580810419420264462352

/-- Of the variables one is named, and not read. -/
def noHeap : AW := { heap := .node (some .dead) .nil .nil, size := 1, low := 1 }

def isTrue : Rs (Value × AW) → Bool
  | .ok (.bool true, _) => true
  | _ => false

/-- The text of the functions has been looked at. -/
theorem awake_ok : allOk [0] Tryz.prog awakeMask = true := by kernel_rfl

theorem awake_true : isTrue (callA awakeMask 80 Tryz.prog 60 4 #[] noHeap) = true := by kernel_rfl

end Go.Proofs.YtkjbbbjebidniaaGreatDoor
