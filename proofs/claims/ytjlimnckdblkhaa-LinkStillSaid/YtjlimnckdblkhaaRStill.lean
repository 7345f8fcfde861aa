/- A packet that may not be, or is not for it, lets nothing go, and brings nothing. For every input; no condition. -/
import Derived.Test.YtjlimnckdblkhaaD
import Derived.Test.YtjlimnckdblkhaaI
import Derived.Test.YtjlimnckdblkhaaRows
namespace Go.Proofs.Ytjlimnckdblkhaa
open Go Go.ChangeShapes Go.WideShapes Go.ChangeAt Go.RowKit

theorem own_linkStill : ownKnob Try.prog.godebug = none := by kernel_rfl
theorem laid_linkStill : laidOutB Try.prog = true := by kernel_rfl

set_option maxRecDepth 100000 in
theorem linkStill_lifted (os : Os) (started : os.Started) (H : Type) (enc : TypeId × Value → H) :
    ReturnsInHanded {} Try.checked os 8 .any (Rows.linkStillSpec.pre6 enc Try.prog Try.f8 Rows.linkStillRow.domain false) (Rows.linkStillSpec.post enc Try.prog Try.f8 false true false false) := by
  refine law_lift (C := Try.checked) (fn := Try.f8) (s := Rows.linkStillSpec) (tb := 4) own_linkStill started (by kernel_rfl) Try.func8 laid_linkStill rfl Try.underlying4 rfl (by kernel_rfl) ?_
    (ChangeSpec.witness6 (enc := enc) (C := Try.checked) false ⟨#[], #[.slice none 0 0, .agg #[.int .i64 0, .int .i64 0, .int .i64 0, .int .i64 0, .int .i64 0, .slice none 0 0]], []⟩ 8 (by kernel_rfl) (by kernel_rfl) (by kernel_rfl) (by kernel_rfl)) ?_
  · intro ds hl
    match ds, hl with
    | [_, _], _ => rfl
  · intro W base args ds ps hval0 hA0
    have hval : ∀ (j : Nat) t v, Try.f8.params[j]? = some t → args[j]? = some v → Value.okWide Try.prog W .any base t v := hval0
    have hA : DataW.TrodAll enc Try.prog W 0 (fun _ => true) true Try.f8.params.toList args.toList ds ps := hA0
    rw [Try.params8] at hA hval
    obtain ⟨v0, v1, d0, d1, p0, p1, rfl, rfl, rfl, h0, h1⟩ := trodAll_two hA
    obtain ⟨w0, l0, hr0, hq0⟩ := open_bytess Try.underlying43 Try.underlying22 Try.underlying5 (by kernel_rfl) (by kernel_rfl) (hval 0 43 v0 rfl rfl) h0
    obtain ⟨k1, fr1, to1, seq1, ack1, bv1, bs1, rfl, hr1⟩ := open_packet (hval 1 24 v1 rfl rfl) h1
    exact linkStill_any hr0 hq0 hr1

theorem linkStill_holds : Rows.LinkStillSaid :=
  OpenClaim.holds_of_wide 8 Try.f8 rfl rfl rfl rfl rfl rfl rfl ⟨rfl, rfl, rfl, rfl, rfl⟩ rfl rfl rfl rfl rfl (by kernel_rfl) Try.func8 (by kernel_rfl)
    (of_decide_eq_true (by kernel_rfl)) (by unfold Func.isWrapper; first | (rw [if_pos (by decide +kernel)]; kernel_rfl) | (rw [if_neg (by decide +kernel)]; exact ⟨rfl, rfl⟩))
    (fun os started H enc _ => linkStill_lifted os started H enc)

#print axioms linkStill_holds
end Go.Proofs.Ytjlimnckdblkhaa
