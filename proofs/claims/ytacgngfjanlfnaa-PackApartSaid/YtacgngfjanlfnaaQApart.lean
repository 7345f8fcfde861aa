/- Of two unlike records of the same fields none is the beginning of the other. For every input; no condition. -/
import Derived.Test.YtacgngfjanlfnaaPN
import Derived.Test.YtacgngfjanlfnaaRows
namespace Go.Proofs.Ytacgngfjanlfnaa
open Go Go.ChangeShapes Go.WideShapes Go.ChangeAt Go.RowKit

theorem own_packApart : ownKnob Try.prog.godebug = none := by kernel_rfl
theorem laid_packApart : laidOutB Try.prog = true := by kernel_rfl

set_option maxRecDepth 100000 in
theorem packApart_lifted (os : Os) (started : os.Started) (H : Type) (enc : TypeId × Value → H) :
    ReturnsInHanded {} Try.checked os 4 .any (Rows.packApartSpec.pre6 enc Try.prog Try.f4 Rows.packApartRow.domain false) (Rows.packApartSpec.post enc Try.prog Try.f4 false true false false) := by
  refine law_lift (C := Try.checked) (fn := Try.f4) (s := Rows.packApartSpec) (tb := 4) own_packApart started (by kernel_rfl) Try.func4 laid_packApart rfl Try.underlying4 rfl (by kernel_rfl) ?_
    (ChangeSpec.witness6 (enc := enc) (C := Try.checked) false ⟨#[], #[.slice none 0 0, .slice none 0 0, .slice none 0 0], []⟩ 8 (by kernel_rfl) (by kernel_rfl) (by kernel_rfl) (by kernel_rfl)) ?_
  · intro ds hl
    match ds, hl with
    | [_, _, _], _ => rfl
  · intro W base args ds ps hval0 hA0
    have hval : ∀ (j : Nat) t v, Try.f4.params[j]? = some t → args[j]? = some v → Value.okWide Try.prog W .any base t v := hval0
    have hA : DataW.TrodAll enc Try.prog W 0 (fun _ => true) true Try.f4.params.toList args.toList ds ps := hA0
    rw [Try.params4] at hA hval
    obtain ⟨v0, v1, v2, d0, d1, d2, p0, p1, p2, rfl, rfl, rfl, h0, h1, h2⟩ := trodAll_three hA
    obtain ⟨fs0, cs0, hr0, hq0⟩ := open_flds (hval 0 22 v0 rfl rfl) h0
    obtain ⟨vs1, ws1, hr1, hq1⟩ := open_vals (hval 1 23 v1 rfl rfl) h1
    obtain ⟨vs2, ws2, hr2, hq2⟩ := open_vals (hval 2 23 v2 rfl rfl) h2
    exact packApart_any hr0 hq0 hr1 hq1 hr2 hq2

theorem packApart_holds : Rows.PackApartSaid :=
  OpenClaim.holds_of_wide 4 Try.f4 rfl rfl rfl rfl rfl rfl rfl ⟨rfl, rfl, rfl, rfl, rfl⟩ rfl rfl rfl rfl rfl (by kernel_rfl) Try.func4 (by kernel_rfl)
    (of_decide_eq_true (by kernel_rfl)) (by unfold Func.isWrapper; first | (rw [if_pos (by decide +kernel)]; kernel_rfl) | (rw [if_neg (by decide +kernel)]; exact ⟨rfl, rfl⟩))
    (fun os started H enc _ => packApart_lifted os started H enc)

#print axioms packApart_holds
end Go.Proofs.Ytacgngfjanlfnaa
