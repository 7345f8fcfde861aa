/- Facts on the types of the program. No condition. -/
import Derived.Test.YtjlgdbmeajdciaaProg
import Derived.Test.YtjlgdbmeajdciaaLB
namespace Go.Proofs.Ytjlgdbmeajdciaa
open Go
theorem fa42_0 : FA Try.prog 42 0 0 := FA.mk Try.runUnderlying42 rfl Try.sizeOf3 (by decide) rfl
theorem fa42_1 : FA Try.prog 42 1 1 := FA.mk Try.runUnderlying42 rfl Try.sizeOf3 (by decide) rfl
theorem fa42_2 : FA Try.prog 42 2 2 := FA.mk Try.runUnderlying42 rfl Try.sizeOf3 (by decide) rfl
theorem fa42_3 : FA Try.prog 42 3 3 := FA.mk Try.runUnderlying42 rfl Try.sizeOf22 (by decide) rfl
theorem fa42_4 : FA Try.prog 42 4 4 := FA.mk Try.runUnderlying42 rfl Try.sizeOf40 (by decide) rfl
theorem fa55_0 : FA Try.prog 55 0 0 := FA.mk Try.runUnderlying55 rfl Try.sizeOf51 (by decide) rfl
theorem fa55_1 : FA Try.prog 55 1 1 := FA.mk Try.runUnderlying55 rfl Try.sizeOf51 (by decide) rfl
theorem fa55_2 : FA Try.prog 55 2 2 := FA.mk Try.runUnderlying55 rfl Try.sizeOf40 (by decide) rfl
theorem fa55_3 : FA Try.prog 55 3 3 := FA.mk Try.runUnderlying55 rfl Try.sizeOf22 (by decide) rfl
theorem fa55_4 : FA Try.prog 55 4 4 := FA.mk Try.runUnderlying55 rfl Try.sizeOf4 (by decide) rfl
theorem fa60_0 : FA Try.prog 60 0 0 := FA.mk Try.runUnderlying60 rfl Try.sizeOf57 (by decide) rfl
theorem fa60_1 : FA Try.prog 60 1 1 := FA.mk Try.runUnderlying60 rfl Try.sizeOf58 (by decide) rfl
theorem fa60_2 : FA Try.prog 60 2 2 := FA.mk Try.runUnderlying60 rfl Try.sizeOf22 (by decide) rfl
theorem fa60_3 : FA Try.prog 60 3 3 := FA.mk Try.runUnderlying60 rfl Try.sizeOf4 (by decide) rfl
theorem ei22 : EI Try.prog 22 5 1 1 ([(.int .u8 0)]) := ⟨Try.underlying22, ⟨Try.t5, _, rfl, rfl, rfl, rfl, by kernel_rfl⟩, by kernel_rfl⟩
theorem ei39 : EI Try.prog 39 42 5 72 ([(.int .i64 0), (.int .i64 0), (.int .i64 0), (.slice none 0 0), (.slice none 0 0)]) := ⟨Try.underlying39, ⟨Try.t42, _, rfl, rfl, rfl, rfl, by kernel_rfl⟩, by kernel_rfl⟩
theorem ei40 : EI Try.prog 40 4 1 1 ([(.bool false)]) := ⟨Try.underlying40, ⟨Try.t4, _, rfl, rfl, rfl, rfl, by kernel_rfl⟩, by kernel_rfl⟩
theorem ei46 : EI Try.prog 46 3 1 8 ([(.int .i64 0)]) := ⟨Try.underlying46, ⟨Try.t3, _, rfl, rfl, rfl, rfl, by kernel_rfl⟩, by kernel_rfl⟩
theorem ei51 : EI Try.prog 51 22 1 24 ([(.slice none 0 0)]) := ⟨Try.underlying51, ⟨Try.t22, _, rfl, rfl, rfl, rfl, by kernel_rfl⟩, by kernel_rfl⟩
theorem ei57 : EI Try.prog 57 62 128 128 (List.replicate 128 (.int .u8 0)) := ⟨Try.underlying57, ⟨Try.t62, _, rfl, rfl, rfl, rfl, by kernel_rfl⟩, by kernel_rfl⟩
theorem bs55 : BS Try.prog 55 [(0, 1), (1, 1), (2, 1), (3, 1), (4, 1)] [(.slice none 0 0), (.slice none 0 0), (.slice none 0 0), (.slice none 0 0), (.bool false)] := BS.mk Try.runUnderlying55 Try.zeroValue55 rfl (fun w => by simp [Try.sizeOf22, Try.sizeOf4, Try.sizeOf40, Try.sizeOf51])
theorem bs60 : BS Try.prog 60 [(0, 1), (1, 1), (2, 1), (3, 1)] [(.slice none 0 0), (.map none), (.slice none 0 0), (.bool false)] := BS.mk Try.runUnderlying60 Try.zeroValue60 rfl (fun w => by simp [Try.sizeOf22, Try.sizeOf4, Try.sizeOf57, Try.sizeOf58])
theorem zv62 : ∀ w, (zeroValue 62).run Try.prog w = .ok (.agg (List.replicate 128 (.int .u8 0)).toArray) w := fun w => by kernel_rfl
theorem mixed : Try.prog.follows .mixedOrders = true := by kernel_rfl
end Go.Proofs.Ytjlgdbmeajdciaa
