/- Whether any fields may be, and how many bytes their records have at most. For every input; no condition. -/
import Derived.Test.YtacgngfjanlfnaaPL
import Derived.Test.YtacgngfjanlfnaaRows
namespace Go.Proofs.Ytacgngfjanlfnaa
open Go Go.ChangeShapes Go.WideShapes Go.ChangeAt Go.RowKit

theorem own_packFields : ownKnob Try.prog.godebug = none := by kernel_rfl
theorem laid_packFields : laidOutB Try.prog = true := by kernel_rfl

set_option maxRecDepth 100000 in
theorem packFields_lifted (os : Os) (started : os.Started) (H : Type) (enc : TypeId × Value → H) :
    ReturnsInHanded {} Try.checked os 5 .any (Rows.packFieldsSpec.pre6 enc Try.prog Try.f5 Rows.packFieldsRow.domain false) (Rows.packFieldsSpec.post enc Try.prog Try.f5 false true false false) := by
  refine law_lift (C := Try.checked) (fn := Try.f5) (s := Rows.packFieldsSpec) (tb := 4) own_packFields started (by kernel_rfl) Try.func5 laid_packFields rfl Try.underlying4 rfl (by kernel_rfl) ?_
    (ChangeSpec.witness6 (enc := enc) (C := Try.checked) false ⟨#[], #[.slice none 0 0], []⟩ 8 (by kernel_rfl) (by kernel_rfl) (by kernel_rfl) (by kernel_rfl)) ?_
  · intro ds hl
    match ds, hl with
    | [_], _ => rfl
  · intro W base args ds ps hval0 hA0
    have hval : ∀ (j : Nat) t v, Try.f5.params[j]? = some t → args[j]? = some v → Value.okWide Try.prog W .any base t v := hval0
    have hA : DataW.TrodAll enc Try.prog W 0 (fun _ => true) true Try.f5.params.toList args.toList ds ps := hA0
    rw [Try.params5] at hA hval
    obtain ⟨v0, d0, rfl, rfl, h0⟩ := trodAll_one hA
    obtain ⟨fs0, cs0, hr0, hq0⟩ := open_flds (hval 0 22 v0 rfl rfl) h0
    exact packFields_any hr0 hq0

theorem packFields_holds : Rows.PackFieldsSaid :=
  OpenClaim.holds_of_wide 5 Try.f5 rfl rfl rfl rfl rfl rfl rfl ⟨rfl, rfl, rfl, rfl, rfl⟩ rfl rfl rfl rfl rfl (by kernel_rfl) Try.func5 (by kernel_rfl)
    (of_decide_eq_true (by kernel_rfl)) (by unfold Func.isWrapper; first | (rw [if_pos (by decide +kernel)]; kernel_rfl) | (rw [if_neg (by decide +kernel)]; exact ⟨rfl, rfl⟩))
    (fun os started H enc _ => packFields_lifted os started H enc)

#print axioms packFields_holds
end Go.Proofs.Ytacgngfjanlfnaa
