/- A record of one number has as many bytes as its span needs, the lowest first. For every input; no condition. -/
import Derived.Test.YtacgngfjanlfnaaPN
import Derived.Test.YtacgngfjanlfnaaRows
namespace Go.Proofs.Ytacgngfjanlfnaa
open Go Go.ChangeShapes Go.WideShapes Go.ChangeAt Go.RowKit

theorem own_packNumbers : ownKnob Try.prog.godebug = none := by kernel_rfl
theorem laid_packNumbers : laidOutB Try.prog = true := by kernel_rfl

set_option maxRecDepth 100000 in
theorem packNumbers_lifted (os : Os) (started : os.Started) (H : Type) (enc : TypeId × Value → H) :
    ReturnsInHanded {} Try.checked os 6 .any (Rows.packNumbersSpec.pre6 enc Try.prog Try.f6 Rows.packNumbersRow.domain false) (Rows.packNumbersSpec.post enc Try.prog Try.f6 false true false false) := by
  refine law_lift (C := Try.checked) (fn := Try.f6) (s := Rows.packNumbersSpec) (tb := 4) own_packNumbers started (by kernel_rfl) Try.func6 laid_packNumbers rfl Try.underlying4 rfl (by kernel_rfl) ?_
    (ChangeSpec.witness6 (enc := enc) (C := Try.checked) false ⟨#[], #[.int .u64 0, .int .u64 0, .int .u64 0], []⟩ 8 (by kernel_rfl) (by kernel_rfl) (by kernel_rfl) (by kernel_rfl)) ?_
  · intro ds hl
    match ds, hl with
    | [_, _, _], _ => rfl
  · intro W base args ds ps hval0 hA0
    have hval : ∀ (j : Nat) t v, Try.f6.params[j]? = some t → args[j]? = some v → Value.okWide Try.prog W .any base t v := hval0
    have hA : DataW.TrodAll enc Try.prog W 0 (fun _ => true) true Try.f6.params.toList args.toList ds ps := hA0
    rw [Try.params6] at hA hval
    obtain ⟨v0, v1, v2, d0, d1, d2, p0, p1, p2, rfl, rfl, rfl, h0, h1, h2⟩ := trodAll_three hA
    obtain ⟨k0, rfl⟩ := open_w64 Try.underlying35 (hval 0 35 v0 rfl rfl) h0
    obtain ⟨k1, rfl⟩ := open_w64 Try.underlying35 (hval 1 35 v1 rfl rfl) h1
    obtain ⟨k2, rfl⟩ := open_w64 Try.underlying35 (hval 2 35 v2 rfl rfl) h2
    exact packNumbers_any 

theorem packNumbers_holds : Rows.PackNumbersSaid :=
  OpenClaim.holds_of_wide 6 Try.f6 rfl rfl rfl rfl rfl rfl rfl ⟨rfl, rfl, rfl, rfl, rfl⟩ rfl rfl rfl rfl rfl (by kernel_rfl) Try.func6 (by kernel_rfl)
    (of_decide_eq_true (by kernel_rfl)) (by unfold Func.isWrapper; first | (rw [if_pos (by decide +kernel)]; kernel_rfl) | (rw [if_neg (by decide +kernel)]; exact ⟨rfl, rfl⟩))
    (fun os started H enc _ => packNumbers_lifted os started H enc)

#print axioms packNumbers_holds
end Go.Proofs.Ytacgngfjanlfnaa
