/- The table of the hash, as it is laid. No condition. -/
import Derived.Test.YtdnbnfebapofnaaDoorSB
import Derived.Test.YtdnbnfebapofnaaDoorLL
import Derived.Test.YtdnbnfebapofnaaDoorRows
namespace Go.Proofs.YtdnbnfebapofnaaDoor
open Go

theorem KT_len : KT.length = 64 := rfl
theorem laid_KT : (Rows.laid_pennant_sha_table : DataW Unit) = .agg ((KT.map fun x => (x.toNat : Int)).map fun x => .lit (.int .u32 x)) := rfl
theorem glob_KT : Tryd.prog.globalNamed "pennant/sha.table" = some 0 := by kernel_rfl
theorem globT_KT : (Tryd.prog.globals[0]?).map (·.type) = some 57 := by kernel_rfl
theorem cells_u32 : Tryd.prog.cellsOf 46 = 1 := by kernel_rfl
theorem laid_tabs {W : World} (h : laidMetH Tryd.prog [("pennant/sha.table", Rows.laid_pennant_sha_table)] W) : Tab (World.fr W) := by
  rw [MakeChecks.laidMetH_plain _ _ _ (by kernel_rfl)] at h
  obtain ⟨ps, ⟨g0, t0, cs0, f0, p0, q0, hg0, ht0, hv0, hd0, _⟩, _, _⟩ := h
  obtain rfl := Option.some.inj (glob_KT.symm.trans hg0)
  obtain rfl := Option.some.inj (globT_KT.symm.trans ht0)
  rw [laid_KT] at hd0
  intro t ht
  refine laid_cells hg0 hv0 hd0 Tryd.underlying57 Tryd.underlying46 cells_u32 t _ ?_
  rw [List.getElem?_map]
  have hl : t < KT.length := by rw [KT_len]; exact ht
  simp [List.getD, hl]
end Go.Proofs.YtdnbnfebapofnaaDoor
