/- What was decoded, encoded again, is what stood there; with a byte more, or less, it is no record. For every input; no condition. -/
import Derived.Test.YtacgngfjanlfnaaPV
import Derived.Test.YtacgngfjanlfnaaRows
namespace Go.Proofs.Ytacgngfjanlfnaa
open Go Go.ChangeShapes Go.WideShapes Go.ChangeAt Go.RowKit

theorem own_packAgain : ownKnob Try.prog.godebug = none := by kernel_rfl
theorem laid_packAgain : laidOutB Try.prog = true := by kernel_rfl

set_option maxRecDepth 100000 in
theorem packAgain_lifted (os : Os) (started : os.Started) (H : Type) (enc : TypeId × Value → H) :
    ReturnsInHanded {} Try.checked os 9 .any (Rows.packAgainSpec.pre6 enc Try.prog Try.f9 Rows.packAgainRow.domain false) (Rows.packAgainSpec.post enc Try.prog Try.f9 false true false false) := by
  refine law_lift (C := Try.checked) (fn := Try.f9) (s := Rows.packAgainSpec) (tb := 4) own_packAgain started (by kernel_rfl) Try.func9 laid_packAgain rfl Try.underlying4 rfl (by kernel_rfl) ?_
    (ChangeSpec.witness6 (enc := enc) (C := Try.checked) false ⟨#[], #[.slice none 0 0, .slice none 0 0], []⟩ 8 (by kernel_rfl) (by kernel_rfl) (by kernel_rfl) (by kernel_rfl)) ?_
  · intro ds hl
    match ds, hl with
    | [_, _], _ => rfl
  · intro W base args ds ps hval0 hA0
    have hval : ∀ (j : Nat) t v, Try.f9.params[j]? = some t → args[j]? = some v → Value.okWide Try.prog W .any base t v := hval0
    have hA : DataW.TrodAll enc Try.prog W 0 (fun _ => true) true Try.f9.params.toList args.toList ds ps := hA0
    rw [Try.params9] at hA hval
    obtain ⟨v0, v1, d0, d1, p0, p1, rfl, rfl, rfl, h0, h1⟩ := trodAll_two hA
    obtain ⟨fs0, cs0, hr0, hq0⟩ := open_flds (hval 0 22 v0 rfl rfl) h0
    obtain ⟨l1, hr1⟩ := open_bytes Try.underlying26 Try.underlying5 (by kernel_rfl) (hval 1 26 v1 rfl rfl) h1 (fun _ => rfl)
    exact packAgain_any hr0 hq0 hr1

theorem packAgain_holds : Rows.PackAgainSaid :=
  OpenClaim.holds_of_wide 9 Try.f9 rfl rfl rfl rfl rfl rfl rfl ⟨rfl, rfl, rfl, rfl, rfl⟩ rfl rfl rfl rfl rfl (by kernel_rfl) Try.func9 (by kernel_rfl)
    (of_decide_eq_true (by kernel_rfl)) (by unfold Func.isWrapper; first | (rw [if_pos (by decide +kernel)]; kernel_rfl) | (rw [if_neg (by decide +kernel)]; exact ⟨rfl, rfl⟩))
    (fun os started H enc _ => packAgain_lifted os started H enc)

#print axioms packAgain_holds
end Go.Proofs.Ytacgngfjanlfnaa
