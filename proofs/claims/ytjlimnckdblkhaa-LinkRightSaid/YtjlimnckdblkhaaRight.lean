/- LinkRight: which packets may be, and of which epochs there are links. For every input; no condition. -/
import Derived.Test.YtjlimnckdblkhaaD
import Derived.Test.YtjlimnckdblkhaaRows
namespace Go.Proofs.Ytjlimnckdblkhaa
open Go Go.ChangeShapes Go.WideShapes Go.ChangeAt Go.RowKit

theorem own_linkRight : ownKnob Try.prog.godebug = none := by kernel_rfl
theorem laid_linkRight : laidOutB Try.prog = true := by kernel_rfl

set_option maxRecDepth 100000 in
theorem linkRight_lifted (os : Os) (started : os.Started) (H : Type) (enc : TypeId × Value → H) :
    ReturnsInHanded {} Try.checked os 3 .any (Rows.linkRightSpec.pre6 enc Try.prog Try.f3 Rows.linkRightRow.domain false) (Rows.linkRightSpec.post enc Try.prog Try.f3 false true false false) := by
  refine law_lift (C := Try.checked) (fn := Try.f3) (s := Rows.linkRightSpec) (tb := 4) own_linkRight started (by kernel_rfl) Try.func3 laid_linkRight rfl Try.underlying4 rfl (by kernel_rfl) ?_
    (ChangeSpec.witness6 (enc := enc) (C := Try.checked) false ⟨#[], #[.agg #[.int .i64 0, .int .i64 0, .int .i64 0, .int .i64 0, .int .i64 0, .slice none 0 0], .int .i64 0], []⟩ 8 (by kernel_rfl) (by kernel_rfl) (by kernel_rfl) (by kernel_rfl)) ?_
  · intro ds hl
    match ds, hl with
    | [_, _], _ => rfl
  · intro W base args ds ps hval0 hA0
    have hval : ∀ (j : Nat) t v, Try.f3.params[j]? = some t → args[j]? = some v → Value.okWide Try.prog W .any base t v := hval0
    have hA : DataW.TrodAll enc Try.prog W 0 (fun _ => true) true Try.f3.params.toList args.toList ds ps := hA0
    rw [Try.params3] at hA hval
    obtain ⟨v0, v1, d0, d1, p0, p1, rfl, rfl, rfl, h0, h1⟩ := trodAll_two hA
    obtain ⟨k0, fr0, to0, seq0, ack0, bv0, bs0, rfl, hr0⟩ := open_packet (hval 0 24 v0 rfl rfl) h0
    obtain ⟨k1, rfl, _⟩ := open_int Try.underlying3 (hval 1 3 v1 rfl rfl) h1
    exact linkRight_any hr0

theorem linkRight_holds : Rows.LinkRightSaid :=
  OpenClaim.holds_of_wide 3 Try.f3 rfl rfl rfl rfl rfl rfl rfl ⟨rfl, rfl, rfl, rfl, rfl⟩ rfl rfl rfl rfl rfl (by kernel_rfl) Try.func3 (by kernel_rfl)
    (of_decide_eq_true (by kernel_rfl)) (by unfold Func.isWrapper; first | (rw [if_pos (by decide +kernel)]; kernel_rfl) | (rw [if_neg (by decide +kernel)]; exact ⟨rfl, rfl⟩))
    (fun os started H enc _ => linkRight_lifted os started H enc)

#print axioms linkRight_holds
end Go.Proofs.Ytjlimnckdblkhaa
