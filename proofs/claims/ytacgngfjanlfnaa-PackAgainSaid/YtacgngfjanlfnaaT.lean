/- Facts on the types of the program. No condition. -/
import Derived.Test.YtacgngfjanlfnaaProg
import Derived.Test.YtacgngfjanlfnaaLB
namespace Go.Proofs.Ytacgngfjanlfnaa
open Go
theorem fa37_0 : FA Try.prog 37 0 0 := FA.mk Try.runUnderlying37 rfl Try.sizeOf3 (by decide) rfl
theorem fa37_1 : FA Try.prog 37 1 1 := FA.mk Try.runUnderlying37 rfl Try.sizeOf35 (by decide) rfl
theorem fa37_2 : FA Try.prog 37 2 2 := FA.mk Try.runUnderlying37 rfl Try.sizeOf35 (by decide) rfl
theorem fa37_3 : FA Try.prog 37 3 3 := FA.mk Try.runUnderlying37 rfl Try.sizeOf22 (by decide) rfl
theorem fa40_0 : FA Try.prog 40 0 0 := FA.mk Try.runUnderlying40 rfl Try.sizeOf35 (by decide) rfl
theorem fa40_1 : FA Try.prog 40 1 1 := FA.mk Try.runUnderlying40 rfl Try.sizeOf26 (by decide) rfl
theorem fa40_2 : FA Try.prog 40 2 2 := FA.mk Try.runUnderlying40 rfl Try.sizeOf38 (by decide) rfl
theorem fa50_0 : FA Try.prog 50 0 0 := FA.mk Try.runUnderlying50 rfl Try.sizeOf26 (by decide) rfl
theorem fa50_1 : FA Try.prog 50 1 1 := FA.mk Try.runUnderlying50 rfl Try.sizeOf4 (by decide) rfl
theorem fa57_0 : FA Try.prog 57 0 0 := FA.mk Try.runUnderlying57 rfl Try.sizeOf26 (by decide) rfl
theorem fa57_1 : FA Try.prog 57 1 1 := FA.mk Try.runUnderlying57 rfl Try.sizeOf4 (by decide) rfl
theorem fa60_0 : FA Try.prog 60 0 0 := FA.mk Try.runUnderlying60 rfl Try.sizeOf26 (by decide) rfl
theorem fa60_1 : FA Try.prog 60 1 1 := FA.mk Try.runUnderlying60 rfl Try.sizeOf4 (by decide) rfl
theorem fa63_1 : FA Try.prog 63 1 1 := FA.mk Try.runUnderlying63 rfl Try.sizeOf35 (by decide) rfl
theorem fa63_2 : FA Try.prog 63 2 2 := FA.mk Try.runUnderlying63 rfl Try.sizeOf35 (by decide) rfl
theorem ei22 : EI Try.prog 22 37 4 48 ([(.int .i64 0), (.int .u64 0), (.int .u64 0), (.slice none 0 0)]) := ⟨Try.underlying22, ⟨Try.t37, _, rfl, rfl, rfl, rfl, by kernel_rfl⟩, by kernel_rfl⟩
theorem ei23 : EI Try.prog 23 40 3 56 ([(.int .u64 0), (.slice none 0 0), (.slice none 0 0)]) := ⟨Try.underlying23, ⟨Try.t40, _, rfl, rfl, rfl, rfl, by kernel_rfl⟩, by kernel_rfl⟩
theorem ei26 : EI Try.prog 26 5 1 1 ([(.int .u8 0)]) := ⟨Try.underlying26, ⟨Try.t5, _, rfl, rfl, rfl, rfl, by kernel_rfl⟩, by kernel_rfl⟩
theorem ei38 : EI Try.prog 38 23 1 24 ([(.slice none 0 0)]) := ⟨Try.underlying38, ⟨Try.t23, _, rfl, rfl, rfl, rfl, by kernel_rfl⟩, by kernel_rfl⟩
theorem bs37 : BS Try.prog 37 [(0, 1), (1, 1), (2, 1), (3, 1)] [(.int .i64 0), (.int .u64 0), (.int .u64 0), (.slice none 0 0)] := BS.mk Try.runUnderlying37 Try.zeroValue37 rfl (fun w => by simp [Try.sizeOf22, Try.sizeOf3, Try.sizeOf35])
theorem bs40 : BS Try.prog 40 [(0, 1), (1, 1), (2, 1)] [(.int .u64 0), (.slice none 0 0), (.slice none 0 0)] := BS.mk Try.runUnderlying40 Try.zeroValue40 rfl (fun w => by simp [Try.sizeOf26, Try.sizeOf35, Try.sizeOf38])
theorem bs50 : BS Try.prog 50 [(0, 1), (1, 1)] [(.slice none 0 0), (.bool false)] := BS.mk Try.runUnderlying50 Try.zeroValue50 rfl (fun w => by simp [Try.sizeOf26, Try.sizeOf4])
theorem bs57 : BS Try.prog 57 [(0, 1), (1, 1)] [(.slice none 0 0), (.bool false)] := BS.mk Try.runUnderlying57 Try.zeroValue57 rfl (fun w => by simp [Try.sizeOf26, Try.sizeOf4])
theorem bs60 : BS Try.prog 60 [(0, 1), (1, 1)] [(.slice none 0 0), (.bool false)] := BS.mk Try.runUnderlying60 Try.zeroValue60 rfl (fun w => by simp [Try.sizeOf26, Try.sizeOf4])
theorem mixed : Try.prog.follows .mixedOrders = true := by kernel_rfl
end Go.Proofs.Ytacgngfjanlfnaa
