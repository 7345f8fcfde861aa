/- Facts on the types of the program. No condition. -/
import Derived.Test.YtjlimnckdblkhaaProg
import Derived.Test.YtjlimnckdblkhaaLB
namespace Go.Proofs.Ytjlimnckdblkhaa
open Go
theorem fa24_0 : FA Try.prog 24 0 0 := FA.mk Try.runUnderlying24 rfl Try.sizeOf3 (by decide) rfl
theorem fa24_1 : FA Try.prog 24 1 1 := FA.mk Try.runUnderlying24 rfl Try.sizeOf3 (by decide) rfl
theorem fa24_2 : FA Try.prog 24 2 2 := FA.mk Try.runUnderlying24 rfl Try.sizeOf3 (by decide) rfl
theorem fa24_3 : FA Try.prog 24 3 3 := FA.mk Try.runUnderlying24 rfl Try.sizeOf3 (by decide) rfl
theorem fa24_4 : FA Try.prog 24 4 4 := FA.mk Try.runUnderlying24 rfl Try.sizeOf3 (by decide) rfl
theorem fa24_5 : FA Try.prog 24 5 5 := FA.mk Try.runUnderlying24 rfl Try.sizeOf22 (by decide) rfl
theorem fa38_0 : FA Try.prog 38 0 0 := FA.mk Try.runUnderlying38 rfl Try.sizeOf3 (by decide) rfl
theorem fa38_1 : FA Try.prog 38 1 1 := FA.mk Try.runUnderlying38 rfl Try.sizeOf22 (by decide) rfl
theorem fa38_2 : FA Try.prog 38 2 2 := FA.mk Try.runUnderlying38 rfl Try.sizeOf24 (by decide) rfl
theorem fa49_0 : FA Try.prog 49 0 0 := FA.mk Try.runUnderlying49 rfl Try.sizeOf3 (by decide) rfl
theorem fa49_1 : FA Try.prog 49 1 1 := FA.mk Try.runUnderlying49 rfl Try.sizeOf3 (by decide) rfl
theorem fa49_2 : FA Try.prog 49 2 2 := FA.mk Try.runUnderlying49 rfl Try.sizeOf43 (by decide) rfl
theorem fa49_3 : FA Try.prog 49 3 3 := FA.mk Try.runUnderlying49 rfl Try.sizeOf3 (by decide) rfl
theorem fa49_4 : FA Try.prog 49 4 4 := FA.mk Try.runUnderlying49 rfl Try.sizeOf3 (by decide) rfl
theorem fa49_5 : FA Try.prog 49 5 5 := FA.mk Try.runUnderlying49 rfl Try.sizeOf3 (by decide) rfl
theorem fa49_6 : FA Try.prog 49 6 6 := FA.mk Try.runUnderlying49 rfl Try.sizeOf3 (by decide) rfl
theorem fa59_0 : FA Try.prog 59 0 0 := FA.mk Try.runUnderlying59 rfl Try.sizeOf26 (by decide) rfl
theorem fa59_1 : FA Try.prog 59 1 1 := FA.mk Try.runUnderlying59 rfl Try.sizeOf43 (by decide) rfl
theorem fa59_2 : FA Try.prog 59 2 2 := FA.mk Try.runUnderlying59 rfl Try.sizeOf43 (by decide) rfl
theorem fa63_0 : FA Try.prog 63 0 0 := FA.mk Try.runUnderlying63 rfl Try.sizeOf60 (by decide) rfl
theorem fa63_1 : FA Try.prog 63 1 8 := FA.mk Try.runUnderlying63 rfl Try.sizeOf61 (by decide) rfl
theorem fa70_0 : FA Try.prog 70 0 0 := FA.mk Try.runUnderlying70 rfl Try.sizeOf3 (by decide) rfl
theorem fa70_1 : FA Try.prog 70 1 1 := FA.mk Try.runUnderlying70 rfl Try.sizeOf3 (by decide) rfl
theorem fa70_2 : FA Try.prog 70 2 2 := FA.mk Try.runUnderlying70 rfl Try.sizeOf3 (by decide) rfl
theorem fa70_3 : FA Try.prog 70 3 3 := FA.mk Try.runUnderlying70 rfl Try.sizeOf3 (by decide) rfl
theorem fa70_4 : FA Try.prog 70 4 4 := FA.mk Try.runUnderlying70 rfl Try.sizeOf3 (by decide) rfl
theorem fa70_5 : FA Try.prog 70 5 5 := FA.mk Try.runUnderlying70 rfl Try.sizeOf3 (by decide) rfl
theorem fa73_0 : FA Try.prog 73 0 0 := FA.mk Try.runUnderlying73 rfl Try.sizeOf70 (by decide) rfl
theorem fa73_1 : FA Try.prog 73 1 6 := FA.mk Try.runUnderlying73 rfl Try.sizeOf43 (by decide) rfl
theorem ei22 : EI Try.prog 22 5 1 1 ([(.int .u8 0)]) := ⟨Try.underlying22, ⟨Try.t5, _, rfl, rfl, rfl, rfl, by kernel_rfl⟩, by kernel_rfl⟩
theorem ei35 : EI Try.prog 35 38 8 96 ([(.int .i64 0), (.slice none 0 0), (.int .i64 0), (.int .i64 0), (.int .i64 0), (.int .i64 0), (.int .i64 0), (.slice none 0 0)]) := ⟨Try.underlying35, ⟨Try.t38, _, rfl, rfl, rfl, rfl, by kernel_rfl⟩, by kernel_rfl⟩
theorem ei40 : EI Try.prog 40 24 6 64 ([(.int .i64 0), (.int .i64 0), (.int .i64 0), (.int .i64 0), (.int .i64 0), (.slice none 0 0)]) := ⟨Try.underlying40, ⟨Try.t24, _, rfl, rfl, rfl, rfl, by kernel_rfl⟩, by kernel_rfl⟩
theorem ei43 : EI Try.prog 43 22 1 24 ([(.slice none 0 0)]) := ⟨Try.underlying43, ⟨Try.t22, _, rfl, rfl, rfl, rfl, by kernel_rfl⟩, by kernel_rfl⟩
theorem ei52 : EI Try.prog 52 56 3 24 ([(.int .i64 0), (.int .i64 0), (.int .i64 0)]) := ⟨Try.underlying52, ⟨Try.t56, _, rfl, rfl, rfl, rfl, by kernel_rfl⟩, by kernel_rfl⟩
theorem ei76 : EI Try.prog 76 3 1 8 ([(.int .i64 0)]) := ⟨Try.underlying76, ⟨Try.t3, _, rfl, rfl, rfl, rfl, by kernel_rfl⟩, by kernel_rfl⟩
theorem bs24 : BS Try.prog 24 [(0, 1), (1, 1), (2, 1), (3, 1), (4, 1), (5, 1)] [(.int .i64 0), (.int .i64 0), (.int .i64 0), (.int .i64 0), (.int .i64 0), (.slice none 0 0)] := BS.mk Try.runUnderlying24 Try.zeroValue24 rfl (fun w => by simp [Try.sizeOf22, Try.sizeOf3])
theorem bs49 : BS Try.prog 49 [(0, 1), (1, 1), (2, 1), (3, 1), (4, 1), (5, 1), (6, 1)] [(.int .i64 0), (.int .i64 0), (.slice none 0 0), (.int .i64 0), (.int .i64 0), (.int .i64 0), (.int .i64 0)] := BS.mk Try.runUnderlying49 Try.zeroValue49 rfl (fun w => by simp [Try.sizeOf3, Try.sizeOf43])
theorem bs63 : BS Try.prog 63 [(0, 8), (8, 2)] [(.pointer none), (.slice none 0 0), (.slice none 0 0), (.int .i64 0), (.pointer none), (.slice none 0 0), (.slice none 0 0), (.int .i64 0), (.slice none 0 0), (.slice none 0 0)] := BS.mk Try.runUnderlying63 Try.zeroValue63 rfl (fun w => by simp [Try.sizeOf60, Try.sizeOf61])
theorem bs70 : BS Try.prog 70 [(0, 1), (1, 1), (2, 1), (3, 1), (4, 1), (5, 1)] [(.int .i64 0), (.int .i64 0), (.int .i64 0), (.int .i64 0), (.int .i64 0), (.int .i64 0)] := BS.mk Try.runUnderlying70 Try.zeroValue70 rfl (fun w => by simp [Try.sizeOf3])
theorem bs73 : BS Try.prog 73 [(0, 6), (6, 1)] [(.int .i64 0), (.int .i64 0), (.int .i64 0), (.int .i64 0), (.int .i64 0), (.int .i64 0), (.slice none 0 0)] := BS.mk Try.runUnderlying73 Try.zeroValue73 rfl (fun w => by simp [Try.sizeOf43, Try.sizeOf70])
theorem mixed : Try.prog.follows .mixedOrders = true := by kernel_rfl
end Go.Proofs.Ytjlimnckdblkhaa
