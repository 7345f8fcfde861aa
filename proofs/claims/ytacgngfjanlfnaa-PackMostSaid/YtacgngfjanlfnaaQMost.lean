/- A record in which all is as long as it may be has just as many bytes as Most tells. For every input; no condition. -/
import Derived.Test.YtacgngfjanlfnaaPO
import Derived.Test.YtacgngfjanlfnaaRows
namespace Go.Proofs.Ytacgngfjanlfnaa
open Go Go.ChangeShapes Go.WideShapes Go.ChangeAt Go.RowKit

theorem own_packMost : ownKnob Try.prog.godebug = none := by kernel_rfl
theorem laid_packMost : laidOutB Try.prog = true := by kernel_rfl

set_option maxRecDepth 100000 in
theorem packMost_lifted (os : Os) (started : os.Started) (H : Type) (enc : TypeId × Value → H) :
    ReturnsInHanded {} Try.checked os 7 .any (Rows.packMostSpec.pre6 enc Try.prog Try.f7 Rows.packMostRow.domain false) (Rows.packMostSpec.post enc Try.prog Try.f7 false true false false) := by
  refine law_lift (C := Try.checked) (fn := Try.f7) (s := Rows.packMostSpec) (tb := 4) own_packMost started (by kernel_rfl) Try.func7 laid_packMost rfl Try.underlying4 rfl (by kernel_rfl) ?_
    (ChangeSpec.witness6 (enc := enc) (C := Try.checked) false ⟨#[], #[.slice none 0 0], []⟩ 8 (by kernel_rfl) (by kernel_rfl) (by kernel_rfl) (by kernel_rfl)) ?_
  · intro ds hl
    match ds, hl with
    | [_], _ => rfl
  · intro W base args ds ps hval0 hA0
    have hval : ∀ (j : Nat) t v, Try.f7.params[j]? = some t → args[j]? = some v → Value.okWide Try.prog W .any base t v := hval0
    have hA : DataW.TrodAll enc Try.prog W 0 (fun _ => true) true Try.f7.params.toList args.toList ds ps := hA0
    rw [Try.params7] at hA hval
    obtain ⟨v0, d0, rfl, rfl, h0⟩ := trodAll_one hA
    obtain ⟨fs0, cs0, hr0, hq0⟩ := open_flds (hval 0 22 v0 rfl rfl) h0
    exact packMost_law hr0 hq0

theorem packMost_holds : Rows.PackMostSaid :=
  OpenClaim.holds_of_wide 7 Try.f7 rfl rfl rfl rfl rfl rfl rfl ⟨rfl, rfl, rfl, rfl, rfl⟩ rfl rfl rfl rfl rfl (by kernel_rfl) Try.func7 (by kernel_rfl)
    (of_decide_eq_true (by kernel_rfl)) (by unfold Func.isWrapper; first | (rw [if_pos (by decide +kernel)]; kernel_rfl) | (rw [if_neg (by decide +kernel)]; exact ⟨rfl, rfl⟩))
    (fun os started H enc _ => packMost_lifted os started H enc)

#print axioms packMost_holds
end Go.Proofs.Ytacgngfjanlfnaa
