/- DiskNews: of how many sectors there is a disk. For every input; no condition. -/
import Derived.Test.YtjlgdbmeajdciaaF
import Derived.Test.YtjlgdbmeajdciaaRows
namespace Go.Proofs.Ytjlgdbmeajdciaa
open Go Go.ChangeShapes Go.WideShapes Go.ChangeAt Go.RowKit

theorem Try.own : ownKnob Try.prog.godebug = none := by kernel_rfl
theorem Try.laidOut : laidOutB Try.prog = true := by kernel_rfl

set_option maxRecDepth 100000 in
theorem diskNews_lifted (os : Os) (started : os.Started) (H : Type) (enc : TypeId × Value → H) :
    ReturnsInHanded {} Try.checked os 4 .any (Rows.diskNewsSpec.pre6 enc Try.prog Try.f4 Rows.diskNewsRow.domain false) (Rows.diskNewsSpec.post enc Try.prog Try.f4 false true false false) := by
  refine law_lift (C := Try.checked) (fn := Try.f4) (s := Rows.diskNewsSpec) (tb := 4) Try.own started (by kernel_rfl) Try.func4 Try.laidOut rfl Try.underlying4 rfl (by kernel_rfl) ?_
    (ChangeSpec.witness6 (enc := enc) (C := Try.checked) false ⟨#[], #[.int .i64 0], []⟩ 8 (by kernel_rfl) (by kernel_rfl) (by kernel_rfl) (by kernel_rfl)) ?_
  · intro ds hl
    match ds, hl with
    | [_], _ => rfl
  · intro W base args ds ps hval0 hA0
    have hval : ∀ (j : Nat) t v, Try.f4.params[j]? = some t → args[j]? = some v → Value.okWide Try.prog W .any base t v := hval0
    have hA : DataW.TrodAll enc Try.prog W 0 (fun _ => true) true Try.f4.params.toList args.toList ds ps := hA0
    rw [Try.params4] at hA hval
    obtain ⟨v0, d0, rfl, rfl, h0⟩ := trodAll_one hA
    obtain ⟨k, rfl, _⟩ := open_int Try.underlying3 (hval 0 3 v0 rfl rfl) h0
    exact diskNews_any

theorem diskNews_holds : Rows.DiskNewsSaid :=
  OpenClaim.holds_of_wide 4 Try.f4 rfl rfl rfl rfl rfl rfl rfl ⟨rfl, rfl, rfl, rfl, rfl⟩ rfl rfl rfl rfl rfl (by kernel_rfl) Try.func4 (by kernel_rfl)
    (of_decide_eq_true (by kernel_rfl)) (by unfold Func.isWrapper; first | (rw [if_pos (by decide +kernel)]; kernel_rfl) | (rw [if_neg (by decide +kernel)]; exact ⟨rfl, rfl⟩))
    (fun os started H enc _ => diskNews_lifted os started H enc)

#print axioms diskNews_holds
end Go.Proofs.Ytjlgdbmeajdciaa
