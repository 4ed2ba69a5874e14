/-
  slices.Clone at this program, laid by the kit's own tool.
-/
import Derived.Shelf.SlGeneric
import Derived.Shelf.SlicesE.Clone
import Derived.Test.YtgjejgndmioioaaProg
namespace Go.Proofs.Ytgjejgndmioioaa
open Go.Shelf
def Try.clone21_ren : Go.Shelf.Ren := ⟨fun | 41 => 21 | n => n, fun | 22 => 27 | 23 => 46 | 4 => 4 | n => n, fun | n => n⟩
theorem Try.clone21 : Go.Proofs.SlLaysE0.n41 Try.prog Try.clone21_ren := {
  mixed := by kernel_rfl
  f41 := ⟨Try.f21.name, by decide, Try.func21.trans (congrArg some (by kernel_rfl))⟩
  t4 := Try.underlying4
  a4 := Try.isAgg4
  z4 := Try.sizeOf4
  v4 := Try.zeroValue4
  t22 := Try.underlying27
  a22 := Try.isAgg27
  z22 := Try.sizeOf27
  v22 := Try.zeroValue27 }
end Go.Proofs.Ytgjejgndmioioaa
