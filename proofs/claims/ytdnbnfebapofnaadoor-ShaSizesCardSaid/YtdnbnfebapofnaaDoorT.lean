/- Facts on the types of the program. No condition. -/
import Derived.Test.YtdnbnfebapofnaaDoorProg
import Derived.Test.YtdnbnfebapofnaaDoorLB
namespace Go.Proofs.YtdnbnfebapofnaaDoor
open Go
theorem fa53_0 : FA Tryd.prog 53 0 0 := FA.mk Tryd.runUnderlying53 rfl Tryd.sizeOf47 (by decide) rfl
theorem fa53_1 : FA Tryd.prog 53 1 8 := FA.mk Tryd.runUnderlying53 rfl Tryd.sizeOf51 (by decide) rfl
theorem fa53_2 : FA Tryd.prog 53 2 72 := FA.mk Tryd.runUnderlying53 rfl Tryd.sizeOf3 (by decide) rfl
theorem fa53_3 : FA Tryd.prog 53 3 73 := FA.mk Tryd.runUnderlying53 rfl Tryd.sizeOf3 (by decide) rfl
theorem ei22 : EI Tryd.prog 22 5 1 1 ([(.int .u8 0)]) := ⟨Tryd.underlying22, ⟨Tryd.t5, _, rfl, rfl, rfl, rfl, by kernel_rfl⟩, by kernel_rfl⟩
theorem ei41 : EI Tryd.prog 41 22 1 24 ([(.slice none 0 0)]) := ⟨Tryd.underlying41, ⟨Tryd.t22, _, rfl, rfl, rfl, rfl, by kernel_rfl⟩, by kernel_rfl⟩
theorem ei61 : EI Tryd.prog 61 46 1 4 ([(.int .u32 0)]) := ⟨Tryd.underlying61, ⟨Tryd.t46, _, rfl, rfl, rfl, rfl, by kernel_rfl⟩, by kernel_rfl⟩
theorem mixed : Tryd.prog.follows .mixedOrders = true := by kernel_rfl
end Go.Proofs.YtdnbnfebapofnaaDoor
