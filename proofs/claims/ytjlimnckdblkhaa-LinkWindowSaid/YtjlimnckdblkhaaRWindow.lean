/- No more than four bodies are on the way at a time; nothing is sent to an unknown peer but a Hello. For every input; no condition. -/
import Derived.Test.YtjlimnckdblkhaaJ
import Derived.Test.YtjlimnckdblkhaaRows
namespace Go.Proofs.Ytjlimnckdblkhaa
open Go Go.ChangeShapes Go.WideShapes Go.ChangeAt Go.RowKit

theorem own_linkWindow : ownKnob Try.prog.godebug = none := by kernel_rfl
theorem laid_linkWindow : laidOutB Try.prog = true := by kernel_rfl

set_option maxRecDepth 100000 in
theorem linkWindow_lifted (os : Os) (started : os.Started) (H : Type) (enc : TypeId × Value → H) :
    ReturnsInHanded {} Try.checked os 7 .any (Rows.linkWindowSpec.pre6 enc Try.prog Try.f7 Rows.linkWindowRow.domain false) (Rows.linkWindowSpec.post enc Try.prog Try.f7 false true false false) := by
  refine law_lift (C := Try.checked) (fn := Try.f7) (s := Rows.linkWindowSpec) (tb := 4) own_linkWindow started (by kernel_rfl) Try.func7 laid_linkWindow rfl Try.underlying4 rfl (by kernel_rfl) ?_
    (ChangeSpec.witness6 (enc := enc) (C := Try.checked) false ⟨#[], #[.slice none 0 0, .int .i64 0], []⟩ 8 (by kernel_rfl) (by kernel_rfl) (by kernel_rfl) (by kernel_rfl)) ?_
  · intro ds hl
    match ds, hl with
    | [_, _], _ => rfl
  · intro W base args ds ps hval0 hA0
    have hval : ∀ (j : Nat) t v, Try.f7.params[j]? = some t → args[j]? = some v → Value.okWide Try.prog W .any base t v := hval0
    have hA : DataW.TrodAll enc Try.prog W 0 (fun _ => true) true Try.f7.params.toList args.toList ds ps := hA0
    rw [Try.params7] at hA hval
    obtain ⟨v0, v1, d0, d1, p0, p1, rfl, rfl, rfl, h0, h1⟩ := trodAll_two hA
    obtain ⟨w0, l0, hr0, hq0⟩ := open_bytess Try.underlying43 Try.underlying22 Try.underlying5 (by kernel_rfl) (by kernel_rfl) (hval 0 43 v0 rfl rfl) h0
    obtain ⟨k1, rfl, _⟩ := open_int Try.underlying3 (hval 1 3 v1 rfl rfl) h1
    exact linkWindow_any hr0 hq0

theorem linkWindow_holds : Rows.LinkWindowSaid :=
  OpenClaim.holds_of_wide 7 Try.f7 rfl rfl rfl rfl rfl rfl rfl ⟨rfl, rfl, rfl, rfl, rfl⟩ rfl rfl rfl rfl rfl (by kernel_rfl) Try.func7 (by kernel_rfl)
    (of_decide_eq_true (by kernel_rfl)) (by unfold Func.isWrapper; first | (rw [if_pos (by decide +kernel)]; kernel_rfl) | (rw [if_neg (by decide +kernel)]; exact ⟨rfl, rfl⟩))
    (fun os started H enc _ => linkWindow_lifted os started H enc)

#print axioms linkWindow_holds
end Go.Proofs.Ytjlimnckdblkhaa
